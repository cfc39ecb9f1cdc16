/- Values of polynomials: plain laws. -/
import Derived.Test.YtpbapoanjkekmaaGreatPC
import Derived.Test.YtpbapoanjkekmaaGreatZR
namespace Go.Proofs.YtpbapoanjkekmaaGreat

/-- what a list of terms gives under a rational weight of the monomials; terms with a negative exponent are ignored -/
def linQ (f : Mo → Rat) : List Tm → Rat
  | [] => 0
  | t :: l => (if vld t.2 = true then (t.1 : Rat) * f t.2 else 0) + linQ f l
theorem linQ_append (f : Mo → Rat) (p q : List Tm) : linQ f (p ++ q) = linQ f p + linQ f q := by
  induction p with
  | nil => simp only [List.nil_append, linQ]; grind
  | cons t l ih => simp only [List.cons_append, linQ, ih]; grind
theorem linQ_split (f : Mo → Rat) (m : Mo) (l : List Tm) : linQ f l = f m * (cf l m : Rat) + linQ f (l.filter fun t => !decide (t.2 = m)) := by
  induction l with
  | nil => simp only [linQ, cf_nil, List.filter_nil, Rat.intCast_zero]; grind
  | cons t l ih =>
    rw [cf_cons]
    by_cases h : t.2 = m
    · subst h
      simp only [linQ, List.filter_cons, decide_true, Bool.not_true, Bool.false_eq_true, if_false]
      rw [ih]
      by_cases hv : vld t.2 = true
      · simp only [hv, if_true, true_and, Rat.intCast_add]
        grind
      · simp only [hv, false_and, if_false, Rat.intCast_add, Bool.false_eq_true, Rat.intCast_zero]
        grind
    · simp only [linQ, List.filter_cons, h, decide_false, Bool.not_false, if_true, and_false, if_false, Int.zero_add]
      rw [ih]
      grind
theorem linQ_of_zero (f : Mo → Rat) : ∀ (n : Nat) (l : List Tm), l.length ≤ n → (∀ m, cf l m = 0) → linQ f l = 0 := by
  intro n
  induction n with
  | zero =>
    intro l hl _
    obtain rfl : l = [] := List.eq_nil_of_length_eq_zero (by omega)
    rfl
  | succ n ih =>
    intro l hl hz
    match l, hl, hz with
    | [], _, _ => rfl
    | t :: l, hl, hz =>
      rw [linQ_split f t.2 (t :: l), hz, Rat.intCast_zero, Rat.mul_zero, Rat.zero_add]
      refine ih _ ?_ (fun m => ?_)
      · simp only [List.filter_cons, decide_true, Bool.not_true, Bool.false_eq_true, if_false]
        have := List.length_filter_le (fun s : Tm => !decide (s.2 = t.2)) l
        simp only [List.length_cons] at hl
        omega
      · rw [cf_filter]
        split
        · rfl
        · exact hz m
theorem linQ_neg (f : Mo → Rat) (l : List Tm) : linQ f (negL l) = -linQ f l := by
  induction l with
  | nil => rfl
  | cons t l ih =>
    have ih' : linQ f (l.map fun t => (-t.1, t.2)) = -linQ f l := ih
    simp only [negL, List.map_cons, linQ, ih', Rat.intCast_neg]
    by_cases h : vld t.2 = true
    · simp only [h, if_true]; grind
    · simp only [h, Bool.false_eq_true, if_false]; grind
theorem linQ_ext {p q : List Tm} (h : ∀ m, cf p m = cf q m) (f : Mo → Rat) : linQ f p = linQ f q := by
  have h0 := linQ_of_zero f _ (p ++ negL q) (Nat.le_refl _) fun m => by
    rw [cf_append, h m]
    unfold cf
    rw [lin_neg]
    omega
  rw [linQ_append, linQ_neg] at h0
  grind
theorem linQ_row (f : Mo → Rat) (hf : ∀ a b, vld a = true → vld b = true → f (addM a b) = f a * f b) (s : Tm) (hs : vld s.2 = true) (q : List Tm) (hq : ∀ t ∈ q, vld t.2 = true) :
    linQ f (q.map fun t => (s.1 * t.1, addM s.2 t.2)) = (s.1 : Rat) * f s.2 * linQ f q := by
  induction q with
  | nil => simp only [List.map_nil, linQ]; grind
  | cons t q ih =>
    have hv := hq t List.mem_cons_self
    simp only [List.map_cons, linQ]
    rw [ih fun x hx => hq x (List.mem_cons_of_mem _ hx), if_pos hv, if_pos (vld_add hs hv), hf _ _ hs hv, Rat.intCast_mul]
    grind
theorem linQ_mulL (f : Mo → Rat) (hf : ∀ a b, vld a = true → vld b = true → f (addM a b) = f a * f b) (p q : List Tm) (hp : ∀ t ∈ p, vld t.2 = true) (hq : ∀ t ∈ q, vld t.2 = true) :
    linQ f (mulL p q) = linQ f p * linQ f q := by
  induction p with
  | nil => simp only [mulL, List.flatMap_nil, linQ]; grind
  | cons s p ih =>
    have h := ih fun x hx => hp x (List.mem_cons_of_mem _ hx)
    unfold mulL at *
    rw [List.flatMap_cons, linQ_append, h, linQ_row f hf s (hp s List.mem_cons_self) q hq]
    simp only [linQ]
    rw [if_pos (hp s List.mem_cons_self)]
    grind
/-- the value of a monomial -/
def mval (pt : Nat → Rat) (m : Mo) : Rat := pt 0 ^ m.1.toNat * pt 1 ^ m.2.1.toNat * pt 2 ^ m.2.2.1.toNat * pt 3 ^ m.2.2.2.toNat
theorem mval_add (pt : Nat → Rat) (a b : Mo) (ha : vld a = true) (hb : vld b = true) : mval pt (addM a b) = mval pt a * mval pt b := by
  rw [vld_iff] at ha hb
  unfold mval addM
  simp only
  rw [Int.toNat_add (by omega) (by omega), Int.toNat_add (by omega) (by omega), Int.toNat_add (by omega) (by omega), Int.toNat_add (by omega) (by omega)]
  generalize a.1.toNat = a0; generalize b.1.toNat = b0
  generalize a.2.1.toNat = a1; generalize b.2.1.toNat = b1
  generalize a.2.2.1.toNat = a2; generalize b.2.2.1.toNat = b2
  generalize a.2.2.2.toNat = a3; generalize b.2.2.2.toNat = b3
  grind
/-- the value of a list of terms -/
def evL (pt : Nat → Rat) (l : List Tm) : Rat := linQ (mval pt) l
theorem evL_nil (pt : Nat → Rat) : evL pt [] = 0 := rfl
theorem evL_append (pt : Nat → Rat) (p q : List Tm) : evL pt (p ++ q) = evL pt p + evL pt q := linQ_append _ p q
theorem evL_ext {p q : List Tm} (h : ∀ m, cf p m = cf q m) (pt : Nat → Rat) : evL pt p = evL pt q := linQ_ext h _
theorem evL_sum {p q r : List Tm} (h : ∀ m, cf r m = cf p m + cf q m) (pt : Nat → Rat) : evL pt r = evL pt p + evL pt q := by
  rw [← evL_append]
  exact evL_ext (fun m => by rw [h, cf_append]) pt
theorem linQ_vF (f : Mo → Rat) (l : List Tm) : linQ f (vF l) = linQ f l := linQ_ext (cf_vF l) f
theorem evL_mul {p q r : List Tm} (h : ∀ m, cf r m = mulC p q m) (pt : Nat → Rat) : evL pt r = evL pt p * evL pt q := by
  rw [evL_ext (q := mulL (vF p) (vF q)) (fun m => by rw [h, cf_all_prod])]
  unfold evL
  rw [linQ_mulL _ (mval_add pt) _ _ (vF_vl p) (vF_vl q), linQ_vF, linQ_vF]
theorem evL_snoc (pt : Nat → Rat) (l : List Tm) (t : Tm) : evL pt (l ++ [t]) = evL pt l + if vld t.2 = true then (t.1 : Rat) * mval pt t.2 else 0 := by
  rw [evL_append]
  show _ + (_ + (0 : Rat)) = _
  rw [Rat.add_zero]
/-- a term's value as the loop builds it -/
def tvT (pt : Nat → Rat) (x : Rat) (m : Mo) : Nat → Rat
  | 0 => x
  | k + 1 => tvT pt x m k * pt k ^ (gt m k).toNat
theorem tvT_four (pt : Nat → Rat) (x : Rat) (m : Mo) : tvT pt x m 4 = x * mval pt m := by
  unfold mval
  simp only [tvT, gt]
  grind
/-- the point: numbers of at most P digits, 0 behind the last -/
theorem RL.one {L : Nat} (h0 : 0 < L) : RL 1 L := RL.int (z := 1) h0 (Nat.one_lt_pow (by omega) (by decide))
theorem tvT_RL {pt : Nat → Rat} {P E Z : Nat} (hp : ∀ i, RL (pt i) P) {x : Rat} {m : Mo} (hx : RL x Z) (hm : ∀ k, k < 4 → (gt m k).toNat ≤ E) : ∀ k, k ≤ 4 → RL (tvT pt x m k) (Z + k * (P * E))
  | 0, _ => by simpa [tvT] using hx
  | k + 1, hk => by
    have h := tvT_RL hp hx hm k (by omega)
    have he := hm k (by omega)
    rw [show Z + (k + 1) * (P * E) = (Z + k * (P * E)) + P * E by rw [Nat.succ_mul]; omega]
    simp only [tvT]
    generalize (gt m k).toNat = e at *
    cases e with
    | zero => rw [Rat.pow_zero, Rat.mul_one]; exact h.mono (Nat.le_add_right _ _)
    | succ e => exact h.mul (((hp k).pow e).mono (Nat.mul_le_mul_left P he))
theorem evL_RL {pt : Nat → Rat} {P E Z : Nat} (hp : ∀ i, RL (pt i) P) (h0 : 0 < Z) : ∀ (l : List Tm), (∀ t ∈ l, t.1.natAbs < 4294967296 ^ Z ∧ ∀ k, k < 4 → (gt t.2 k).toNat ≤ E) → RL (evL pt l) (l.length * (Z + 4 * (P * E) + 1) + 1) := by
  intro l
  induction l with
  | nil => intro _; rw [evL_nil]; exact RL.zero (by omega)
  | cons t l ih =>
    intro h
    have h1 := ih fun s hs => h s (List.mem_cons_of_mem _ hs)
    obtain ⟨h2, h3⟩ := h t List.mem_cons_self
    have h4 := tvT_RL hp (RL.int h0 h2) h3 4 (Nat.le_refl _)
    rw [tvT_four] at h4
    have e : evL pt (t :: l) = (if vld t.2 = true then (t.1 : Rat) * mval pt t.2 else 0) + evL pt l := rfl
    rw [e, List.length_cons]
    have h5 : RL (if vld t.2 = true then (t.1 : Rat) * mval pt t.2 else 0) (Z + 4 * (P * E)) := by
      split
      · exact h4
      · exact RL.zero (by omega)
    refine (h5.add h1).mono ?_
    have e2 : (l.length + 1) * (Z + 4 * (P * E) + 1) = l.length * (Z + 4 * (P * E) + 1) + (Z + 4 * (P * E) + 1) := Nat.succ_mul _ _
    omega
/-! ### one denominator for all terms -/
theorem rpow_add (q : Rat) (a b : Nat) : q ^ (a + b) = q ^ a * q ^ b := by
  induction b with
  | zero => rw [Nat.add_zero, Rat.pow_zero, Rat.mul_one]
  | succ b ih => rw [Nat.add_succ, Rat.pow_succ, ih, Rat.pow_succ, Rat.mul_assoc]
theorem rmul_pow (q d : Rat) (k : Nat) : (q * d) ^ k = q ^ k * d ^ k := by
  induction k with
  | zero => rw [Rat.pow_zero, Rat.pow_zero, Rat.pow_zero, Rat.mul_one]
  | succ k ih =>
    rw [Rat.pow_succ, ih, Rat.pow_succ, Rat.pow_succ]
    generalize q ^ k = a
    generalize d ^ k = b
    grind
theorem rden_ne (q : Rat) : (q.den : Rat) ≠ 0 := fun h => q.den_nz (Rat.natCast_eq_zero_iff.1 h)
theorem rmul_den (q : Rat) : q * (q.den : Rat) = (q.num : Rat) := by
  have h := Rat.mkRat_self q
  rw [Rat.mkRat_eq_div] at h
  have h2 := Rat.div_mul_cancel (a := (q.num : Rat)) (rden_ne q)
  rwa [h] at h2
theorem rat_split (q : Rat) (k E : Nat) (hk : k ≤ E) : q ^ k * (q.den : Rat) ^ E = ((q.num ^ k * (q.den : Int) ^ (E - k) : Int) : Rat) := by
  obtain ⟨j, rfl⟩ : ∃ j, E = k + j := ⟨E - k, by omega⟩
  rw [Nat.add_sub_cancel_left, Rat.intCast_mul, Rat.intCast_pow, Rat.intCast_pow, ← rmul_den, Rat.intCast_natCast, rpow_add, rmul_pow, Rat.mul_assoc]
theorem part_le (q : Rat) (P k E : Nat) (h : RL q P) (hk : k ≤ E) : (q.num ^ k * (q.den : Int) ^ (E - k)).natAbs ≤ (4294967296 ^ P) ^ E := by
  rw [Int.natAbs_mul, Int.natAbs_pow, Int.natAbs_pow, Int.natAbs_natCast]
  have h1 := Nat.pow_le_pow_left (Nat.le_of_lt h.1) k
  have h2 := Nat.pow_le_pow_left (Nat.le_of_lt h.2) (E - k)
  have h3 := Nat.mul_le_mul h1 h2
  rw [← Nat.pow_add, show k + (E - k) = E by omega] at h3
  exact h3
/-- a polynomial's value over the common denominator -/
theorem evL_den {pt : Nat → Rat} {P E : Nat} (hp : ∀ i, RL (pt i) P) : ∀ (l : List Tm), (∀ t ∈ l, ∀ k, k < 4 → (gt t.2 k).toNat ≤ E) →
    ∃ X : Int, evL pt l * (((pt 0).den : Rat) ^ E * ((pt 1).den : Rat) ^ E * ((pt 2).den : Rat) ^ E * ((pt 3).den : Rat) ^ E) = (X : Rat) ∧ X.natAbs ≤ nrm l * ((4294967296 ^ P) ^ E * (4294967296 ^ P) ^ E * (4294967296 ^ P) ^ E * (4294967296 ^ P) ^ E) := by
  intro l
  induction l with
  | nil => intro _; exact ⟨0, by rw [evL_nil, Rat.zero_mul]; rfl, Nat.zero_le _⟩
  | cons t l ih =>
    intro h
    obtain ⟨X, h1, h2⟩ := ih fun s hs => h s (List.mem_cons_of_mem _ hs)
    have he := h t List.mem_cons_self
    have e : evL pt (t :: l) = (if vld t.2 = true then (t.1 : Rat) * mval pt t.2 else 0) + evL pt l := rfl
    have en : nrm (t :: l) = t.1.natAbs + nrm l := rfl
    rw [e, en]
    by_cases hv : vld t.2 = true
    · rw [if_pos hv]
      have k0 := he 0 (by omega); have k1 := he 1 (by omega); have k2 := he 2 (by omega); have k3 := he 3 (by omega)
      simp only [gt] at k0 k1 k2 k3
      have s0 := rat_split (pt 0) _ E k0; have s1 := rat_split (pt 1) _ E k1; have s2 := rat_split (pt 2) _ E k2; have s3 := rat_split (pt 3) _ E k3
      have b0 := part_le (pt 0) P _ E (hp 0) k0; have b1 := part_le (pt 1) P _ E (hp 1) k1; have b2 := part_le (pt 2) P _ E (hp 2) k2; have b3 := part_le (pt 3) P _ E (hp 3) k3
      unfold mval
      generalize (pt 0).num ^ t.2.1.toNat * ((pt 0).den : Int) ^ (E - t.2.1.toNat) = z0 at *
      generalize (pt 1).num ^ t.2.2.1.toNat * ((pt 1).den : Int) ^ (E - t.2.2.1.toNat) = z1 at *
      generalize (pt 2).num ^ t.2.2.2.1.toNat * ((pt 2).den : Int) ^ (E - t.2.2.2.1.toNat) = z2 at *
      generalize (pt 3).num ^ t.2.2.2.2.toNat * ((pt 3).den : Int) ^ (E - t.2.2.2.2.toNat) = z3 at *
      generalize (4294967296 ^ P) ^ E = BB at *
      refine ⟨t.1 * (z0 * z1 * z2 * z3) + X, ?_, ?_⟩
      · rw [Rat.intCast_add, Rat.intCast_mul, Rat.intCast_mul, Rat.intCast_mul, Rat.intCast_mul, ← h1, ← s0, ← s1, ← s2, ← s3]
        grind
      · refine Nat.le_trans (Int.natAbs_add_le _ _) ?_
        rw [Nat.add_mul]
        refine Nat.add_le_add ?_ h2
        rw [Int.natAbs_mul, Int.natAbs_mul, Int.natAbs_mul, Int.natAbs_mul]
        exact Nat.mul_le_mul_left _ (Nat.mul_le_mul (Nat.mul_le_mul (Nat.mul_le_mul b0 b1) b2) b3)
    · rw [if_neg hv, Rat.zero_add]
      exact ⟨X, h1, Nat.le_trans h2 (Nat.mul_le_mul_right _ (Nat.le_add_left _ _))⟩
theorem evL_RLn {pt : Nat → Rat} {P E Z : Nat} (hp : ∀ i, RL (pt i) P) (h0 : 0 < Z) (l : List Tm) (hl : ∀ t ∈ l, ∀ k, k < 4 → (gt t.2 k).toNat ≤ E) (hn : nrm l < 4294967296 ^ Z) : RL (evL pt l) (Z + 4 * (P * E)) := by
  obtain ⟨X, h1, h2⟩ := evL_den (P := P) hp l hl
  have hd : ∀ i, 0 < (pt i).den ^ E := fun i => Nat.pow_pos (pt i).den_pos
  have hD : (pt 0).den ^ E * (pt 1).den ^ E * (pt 2).den ^ E * (pt 3).den ^ E ≠ 0 := Nat.ne_of_gt (Nat.mul_pos (Nat.mul_pos (Nat.mul_pos (hd 0) (hd 1)) (hd 2)) (hd 3))
  have hb : ∀ i, (pt i).den ^ E ≤ (4294967296 ^ P) ^ E := fun i => Nat.pow_le_pow_left (Nat.le_of_lt (hp i).2) E
  have hB : (4294967296 ^ P) ^ E * (4294967296 ^ P) ^ E * (4294967296 ^ P) ^ E * (4294967296 ^ P) ^ E = 4294967296 ^ (4 * (P * E)) := by
    rw [← Nat.pow_mul, ← Nat.pow_add, ← Nat.pow_add, ← Nat.pow_add]
    congr 1
    omega
  have hDB := Nat.mul_le_mul (Nat.mul_le_mul (Nat.mul_le_mul (hb 0) (hb 1)) (hb 2)) (hb 3)
  rw [hB] at h2 hDB
  have hBp : 0 < 4294967296 ^ (4 * (P * E)) := Nat.pow_pos (by decide)
  have e : evL pt l = mkRat X ((pt 0).den ^ E * (pt 1).den ^ E * (pt 2).den ^ E * (pt 3).den ^ E) := by
    have h3 : evL pt l * (((pt 0).den ^ E * (pt 1).den ^ E * (pt 2).den ^ E * (pt 3).den ^ E : Nat) : Rat) = (X : Rat) := by
      rw [← h1]
      simp only [Rat.natCast_mul, Rat.natCast_pow]
    generalize (pt 0).den ^ E * (pt 1).den ^ E * (pt 2).den ^ E * (pt 3).den ^ E = D at *
    have hDq : (D : Rat) ≠ 0 := fun h => hD (Rat.natCast_eq_zero_iff.1 h)
    have h4 := Rat.div_mul_cancel (a := (X : Rat)) hDq
    rw [← Rat.mkRat_eq_div, ← h3] at h4
    generalize mkRat X D = y at *
    have h5 := congrArg (· / (D : Rat)) h4
    rwa [Rat.mul_div_cancel hDq, Rat.mul_div_cancel hDq, eq_comm] at h5
  obtain ⟨a, b⟩ := mkRat_le X ((pt 0).den ^ E * (pt 1).den ^ E * (pt 2).den ^ E * (pt 3).den ^ E)
  rw [← e] at a b
  have hZ1 : 1 < 4294967296 ^ Z := Nat.one_lt_pow (by omega) (by decide)
  unfold RL
  rw [Nat.pow_add]
  refine ⟨Nat.lt_of_le_of_lt (Nat.le_trans a h2) (Nat.mul_lt_mul_of_pos_right hn hBp), Nat.lt_of_le_of_lt b ?_⟩
  rw [Nat.max_eq_left (Nat.pos_of_ne_zero hD)]
  refine Nat.lt_of_le_of_lt hDB ?_
  have := Nat.mul_lt_mul_of_pos_right hZ1 hBp
  rwa [Nat.one_mul] at this
end Go.Proofs.YtpbapoanjkekmaaGreat
