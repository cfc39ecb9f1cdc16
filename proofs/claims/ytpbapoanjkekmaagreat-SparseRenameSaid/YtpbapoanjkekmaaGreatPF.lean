/- Values of polynomials: plain laws. -/
import Derived.Test.YtpbapoanjkekmaaGreatPC
import Derived.Test.YtpbapoanjkekmaaGreatZR
namespace Go.Proofs.YtpbapoanjkekmaaGreat

/-- what a list of terms gives under a rational weight of the monomials; terms with a negative exponent are ignored -/
def linQ (f : Mo → Rat) : List Tm → Rat
  | [] => 0
  | t :: l => (if vld t.2 = true then (t.1 : Rat) * f t.2 else 0) + linQ f l
theorem linQ_append (f : Mo → Rat) (p q : List Tm) : linQ f (p ++ q) = linQ f p + linQ f q := by
  induction p with
  | nil => simp only [List.nil_append, linQ]; grind
  | cons t l ih => simp only [List.cons_append, linQ, ih]; grind
theorem linQ_split (f : Mo → Rat) (m : Mo) (l : List Tm) : linQ f l = f m * (cf l m : Rat) + linQ f (l.filter fun t => !decide (t.2 = m)) := by
  induction l with
  | nil => simp only [linQ, cf_nil, List.filter_nil, Rat.intCast_zero]; grind
  | cons t l ih =>
    rw [cf_cons]
    by_cases h : t.2 = m
    · subst h
      simp only [linQ, List.filter_cons, decide_true, Bool.not_true, Bool.false_eq_true, if_false]
      rw [ih]
      by_cases hv : vld t.2 = true
      · simp only [hv, if_true, true_and, Rat.intCast_add]
        grind
      · simp only [hv, false_and, if_false, Rat.intCast_add, Bool.false_eq_true, Rat.intCast_zero]
        grind
    · simp only [linQ, List.filter_cons, h, decide_false, Bool.not_false, if_true, and_false, if_false, Int.zero_add]
      rw [ih]
      grind
theorem linQ_of_zero (f : Mo → Rat) : ∀ (n : Nat) (l : List Tm), l.length ≤ n → (∀ m, cf l m = 0) → linQ f l = 0 := by
  intro n
  induction n with
  | zero =>
    intro l hl _
    obtain rfl : l = [] := List.eq_nil_of_length_eq_zero (by omega)
    rfl
  | succ n ih =>
    intro l hl hz
    match l, hl, hz with
    | [], _, _ => rfl
    | t :: l, hl, hz =>
      rw [linQ_split f t.2 (t :: l), hz, Rat.intCast_zero, Rat.mul_zero, Rat.zero_add]
      refine ih _ ?_ (fun m => ?_)
      · simp only [List.filter_cons, decide_true, Bool.not_true, Bool.false_eq_true, if_false]
        have := List.length_filter_le (fun s : Tm => !decide (s.2 = t.2)) l
        simp only [List.length_cons] at hl
        omega
      · rw [cf_filter]
        split
        · rfl
        · exact hz m
theorem linQ_neg (f : Mo → Rat) (l : List Tm) : linQ f (negL l) = -linQ f l := by
  induction l with
  | nil => rfl
  | cons t l ih =>
    have ih' : linQ f (l.map fun t => (-t.1, t.2)) = -linQ f l := ih
    simp only [negL, List.map_cons, linQ, ih', Rat.intCast_neg]
    by_cases h : vld t.2 = true
    · simp only [h, if_true]; grind
    · simp only [h, Bool.false_eq_true, if_false]; grind
theorem linQ_ext {p q : List Tm} (h : ∀ m, cf p m = cf q m) (f : Mo → Rat) : linQ f p = linQ f q := by
  have h0 := linQ_of_zero f _ (p ++ negL q) (Nat.le_refl _) fun m => by
    rw [cf_append, h m]
    unfold cf
    rw [lin_neg]
    omega
  rw [linQ_append, linQ_neg] at h0
  grind
theorem linQ_row (f : Mo → Rat) (hf : ∀ a b, vld a = true → vld b = true → f (addM a b) = f a * f b) (s : Tm) (hs : vld s.2 = true) (q : List Tm) (hq : ∀ t ∈ q, vld t.2 = true) :
    linQ f (q.map fun t => (s.1 * t.1, addM s.2 t.2)) = (s.1 : Rat) * f s.2 * linQ f q := by
  induction q with
  | nil => simp only [List.map_nil, linQ]; grind
  | cons t q ih =>
    have hv := hq t List.mem_cons_self
    simp only [List.map_cons, linQ]
    rw [ih fun x hx => hq x (List.mem_cons_of_mem _ hx), if_pos hv, if_pos (vld_add hs hv), hf _ _ hs hv, Rat.intCast_mul]
    grind
theorem linQ_mulL (f : Mo → Rat) (hf : ∀ a b, vld a = true → vld b = true → f (addM a b) = f a * f b) (p q : List Tm) (hp : ∀ t ∈ p, vld t.2 = true) (hq : ∀ t ∈ q, vld t.2 = true) :
    linQ f (mulL p q) = linQ f p * linQ f q := by
  induction p with
  | nil => simp only [mulL, List.flatMap_nil, linQ]; grind
  | cons s p ih =>
    have h := ih fun x hx => hp x (List.mem_cons_of_mem _ hx)
    unfold mulL at *
    rw [List.flatMap_cons, linQ_append, h, linQ_row f hf s (hp s List.mem_cons_self) q hq]
    simp only [linQ]
    rw [if_pos (hp s List.mem_cons_self)]
    grind
/-- the value of a monomial -/
def mval (pt : Nat → Rat) (m : Mo) : Rat := pt 0 ^ m.1.toNat * pt 1 ^ m.2.1.toNat * pt 2 ^ m.2.2.1.toNat * pt 3 ^ m.2.2.2.toNat
theorem mval_add (pt : Nat → Rat) (a b : Mo) (ha : vld a = true) (hb : vld b = true) : mval pt (addM a b) = mval pt a * mval pt b := by
  rw [vld_iff] at ha hb
  unfold mval addM
  simp only
  rw [Int.toNat_add (by omega) (by omega), Int.toNat_add (by omega) (by omega), Int.toNat_add (by omega) (by omega), Int.toNat_add (by omega) (by omega)]
  generalize a.1.toNat = a0; generalize b.1.toNat = b0
  generalize a.2.1.toNat = a1; generalize b.2.1.toNat = b1
  generalize a.2.2.1.toNat = a2; generalize b.2.2.1.toNat = b2
  generalize a.2.2.2.toNat = a3; generalize b.2.2.2.toNat = b3
  grind
/-- the value of a list of terms -/
def evL (pt : Nat → Rat) (l : List Tm) : Rat := linQ (mval pt) l
theorem evL_nil (pt : Nat → Rat) : evL pt [] = 0 := rfl
theorem evL_append (pt : Nat → Rat) (p q : List Tm) : evL pt (p ++ q) = evL pt p + evL pt q := linQ_append _ p q
theorem evL_ext {p q : List Tm} (h : ∀ m, cf p m = cf q m) (pt : Nat → Rat) : evL pt p = evL pt q := linQ_ext h _
theorem evL_sum {p q r : List Tm} (h : ∀ m, cf r m = cf p m + cf q m) (pt : Nat → Rat) : evL pt r = evL pt p + evL pt q := by
  rw [← evL_append]
  exact evL_ext (fun m => by rw [h, cf_append]) pt
theorem linQ_vF (f : Mo → Rat) (l : List Tm) : linQ f (vF l) = linQ f l := linQ_ext (cf_vF l) f
theorem evL_mul {p q r : List Tm} (h : ∀ m, cf r m = mulC p q m) (pt : Nat → Rat) : evL pt r = evL pt p * evL pt q := by
  rw [evL_ext (q := mulL (vF p) (vF q)) (fun m => by rw [h, cf_all_prod])]
  unfold evL
  rw [linQ_mulL _ (mval_add pt) _ _ (vF_vl p) (vF_vl q), linQ_vF, linQ_vF]
theorem evL_snoc (pt : Nat → Rat) (l : List Tm) (t : Tm) : evL pt (l ++ [t]) = evL pt l + if vld t.2 = true then (t.1 : Rat) * mval pt t.2 else 0 := by
  rw [evL_append]
  show _ + (_ + (0 : Rat)) = _
  rw [Rat.add_zero]
/-- a term's value as the loop builds it -/
def tvT (pt : Nat → Rat) (x : Rat) (m : Mo) : Nat → Rat
  | 0 => x
  | k + 1 => tvT pt x m k * pt k ^ (gt m k).toNat
theorem tvT_four (pt : Nat → Rat) (x : Rat) (m : Mo) : tvT pt x m 4 = x * mval pt m := by
  unfold mval
  simp only [tvT, gt]
  grind
/-- the point: numbers of at most P digits, 0 behind the last -/
theorem RL.one {L : Nat} (h0 : 0 < L) : RL 1 L := RL.int (z := 1) h0 (Nat.one_lt_pow (by omega) (by decide))
theorem tvT_RL {pt : Nat → Rat} {P E Z : Nat} (hp : ∀ i, RL (pt i) P) {x : Rat} {m : Mo} (hx : RL x Z) (hm : ∀ k, k < 4 → (gt m k).toNat ≤ E) : ∀ k, k ≤ 4 → RL (tvT pt x m k) (Z + k * (P * E))
  | 0, _ => by simpa [tvT] using hx
  | k + 1, hk => by
    have h := tvT_RL hp hx hm k (by omega)
    have he := hm k (by omega)
    rw [show Z + (k + 1) * (P * E) = (Z + k * (P * E)) + P * E by rw [Nat.succ_mul]; omega]
    simp only [tvT]
    generalize (gt m k).toNat = e at *
    cases e with
    | zero => rw [Rat.pow_zero, Rat.mul_one]; exact h.mono (Nat.le_add_right _ _)
    | succ e => exact h.mul (((hp k).pow e).mono (Nat.mul_le_mul_left P he))
theorem evL_RL {pt : Nat → Rat} {P E Z : Nat} (hp : ∀ i, RL (pt i) P) (h0 : 0 < Z) : ∀ (l : List Tm), (∀ t ∈ l, t.1.natAbs < 4294967296 ^ Z ∧ ∀ k, k < 4 → (gt t.2 k).toNat ≤ E) → RL (evL pt l) (l.length * (Z + 4 * (P * E) + 1) + 1) := by
  intro l
  induction l with
  | nil => intro _; rw [evL_nil]; exact RL.zero (by omega)
  | cons t l ih =>
    intro h
    have h1 := ih fun s hs => h s (List.mem_cons_of_mem _ hs)
    obtain ⟨h2, h3⟩ := h t List.mem_cons_self
    have h4 := tvT_RL hp (RL.int h0 h2) h3 4 (Nat.le_refl _)
    rw [tvT_four] at h4
    have e : evL pt (t :: l) = (if vld t.2 = true then (t.1 : Rat) * mval pt t.2 else 0) + evL pt l := rfl
    rw [e, List.length_cons]
    have h5 : RL (if vld t.2 = true then (t.1 : Rat) * mval pt t.2 else 0) (Z + 4 * (P * E)) := by
      split
      · exact h4
      · exact RL.zero (by omega)
    refine (h5.add h1).mono ?_
    have e2 : (l.length + 1) * (Z + 4 * (P * E) + 1) = l.length * (Z + 4 * (P * E) + 1) + (Z + 4 * (P * E) + 1) := Nat.succ_mul _ _
    omega
end Go.Proofs.YtpbapoanjkekmaaGreat
