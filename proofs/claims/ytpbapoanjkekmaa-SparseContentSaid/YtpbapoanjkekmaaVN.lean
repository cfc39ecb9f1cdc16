/- Plain laws of the content and of the sign normal form. -/
import Derived.Test.YtpbapoanjkekmaaH8
import Derived.Test.YtpbapoanjkekmaaR6
namespace Go.Proofs.Ytpbapoanjkekmaa

/-- the greatest common divisor of the coefficients -/
def gcF (g : Nat) (l : List Tm) : Nat := l.foldl (fun g t => Nat.gcd g t.1.natAbs) g
def gcL (l : List Tm) : Nat := gcF 0 l
theorem gcF_snoc (g : Nat) (l : List Tm) (t : Tm) : gcF g (l ++ [t]) = Nat.gcd (gcF g l) t.1.natAbs := by simp [gcF]
theorem gcL_snoc (l : List Tm) (t : Tm) : gcL (l ++ [t]) = Nat.gcd (gcL l) t.1.natAbs := gcF_snoc 0 l t
theorem gcF_dvd : ∀ (l : List Tm) (g : Nat), gcF g l ∣ g ∧ ∀ t ∈ l, gcF g l ∣ t.1.natAbs
  | [], g => ⟨Nat.dvd_refl _, by simp⟩
  | s :: l, g => by
    obtain ⟨h1, h2⟩ := gcF_dvd l (Nat.gcd g s.1.natAbs)
    have e : gcF g (s :: l) = gcF (Nat.gcd g s.1.natAbs) l := rfl
    rw [e]
    refine ⟨Nat.dvd_trans h1 (Nat.gcd_dvd_left _ _), fun t ht => ?_⟩
    rcases List.mem_cons.1 ht with rfl | ht
    · exact Nat.dvd_trans h1 (Nat.gcd_dvd_right _ _)
    · exact h2 t ht
theorem gcL_dvd {l : List Tm} {t : Tm} (h : t ∈ l) : gcL l ∣ t.1.natAbs := (gcF_dvd l 0).2 t h
theorem gcF_scl (z : Int) : ∀ (l : List Tm) (g : Nat), gcF (g * z.natAbs) (sclL z l) = gcF g l * z.natAbs
  | [], g => rfl
  | s :: l, g => by
    have e1 : gcF (g * z.natAbs) (sclL z (s :: l)) = gcF (Nat.gcd (g * z.natAbs) (s.1 * z).natAbs) (sclL z l) := rfl
    have e2 : gcF g (s :: l) = gcF (Nat.gcd g s.1.natAbs) l := rfl
    rw [e1, e2, Int.natAbs_mul, Nat.gcd_mul_right, gcF_scl z l]
theorem gcL_scl (z : Int) (l : List Tm) : gcL (sclL z l) = gcL l * z.natAbs := by
  have := gcF_scl z l 0
  rwa [Nat.zero_mul] at this
theorem gcL_pos {l : List Tm} (h : Canon l) (hn : l ≠ []) : 0 < gcL l := by
  cases l with
  | nil => exact absurd rfl hn
  | cons t l =>
    refine Nat.pos_of_ne_zero fun e => ?_
    have := gcL_dvd (l := t :: l) (t := t) List.mem_cons_self
    rw [e] at this
    have h0 := h.ne t List.mem_cons_self
    have := Nat.eq_zero_of_zero_dvd this
    omega
/-- the first coefficient's sign -/
def hdN : List Tm → Bool
  | [] => false
  | t :: _ => decide (t.1 < 0)
/-- what the coefficients are divided by -/
def dvs (l : List Tm) : Int := if hdN l then -(gcL l : Int) else (gcL l : Int)
def divL (d : Int) (l : List Tm) : List Tm := l.map fun t => (t.1 / d, t.2)
def snL (l : List Tm) : List Tm := divL (dvs l) l
theorem dvs_abs (l : List Tm) : (dvs l).natAbs = gcL l := by unfold dvs; split <;> omega
theorem dvs_ne {l : List Tm} (h : Canon l) (hn : l ≠ []) : dvs l ≠ 0 := by
  have := gcL_pos h hn
  have := dvs_abs l
  omega
theorem dvs_dvd {l : List Tm} {t : Tm} (h : t ∈ l) : dvs l ∣ t.1 := by
  rw [← Int.natAbs_dvd_natAbs, dvs_abs]
  exact gcL_dvd h
theorem scl_sn (l : List Tm) : sclL (dvs l) (snL l) = l := by
  unfold sclL snL divL
  rw [List.map_map]
  refine (List.map_congr_left fun t ht => ?_).trans (List.map_id l)
  have := Int.ediv_mul_cancel (dvs_dvd ht)
  show (t.1 / dvs l * dvs l, t.2) = t
  rw [this]
theorem sn_can {l : List Tm} (h : Canon l) : Canon (snL l) where
  ne t ht := by
    obtain ⟨s, hs, rfl⟩ := List.mem_map.1 ht
    intro e
    have h1 := Int.ediv_mul_cancel (dvs_dvd hs)
    have e' : s.1 / dvs l = 0 := e
    rw [e', Int.zero_mul] at h1
    exact h.ne s hs h1.symm
  vl t ht := by
    obtain ⟨s, hs, rfl⟩ := List.mem_map.1 ht
    exact h.vl s hs
  so := by
    unfold snL divL
    rw [List.pairwise_map]
    exact h.so
theorem sn_gc {l : List Tm} (h : Canon l) (hn : l ≠ []) : gcL (snL l) = 1 := by
  have e := gcL_scl (dvs l) (snL l)
  rw [scl_sn, dvs_abs] at e
  have hp := gcL_pos h hn
  generalize gcL (snL l) = x at *
  generalize gcL l = g at *
  have : g * 1 = g * x := by rw [Nat.mul_one, Nat.mul_comm]; exact e
  exact (Nat.eq_of_mul_eq_mul_left hp this).symm
theorem sn_cf (l : List Tm) (m : Mo) : dvs l * cf (snL l) m = cf l m := by
  have := cf_scl (dvs l) (snL l) m
  rw [scl_sn] at this
  exact this.symm
theorem dvs_mul (t z : Int) (g : Nat) (ht : t ≠ 0) (hz : z ≠ 0) : (if decide (t * z < 0) = true then -(((g * z.natAbs : Nat) : Int)) else ((g * z.natAbs : Nat) : Int)) = (if decide (t < 0) = true then -(g : Int) else (g : Int)) * z := by
  have ez : ((z.natAbs : Nat) : Int) = if z < 0 then -z else z := by split <;> omega
  rw [Int.natCast_mul, ez]
  by_cases h1 : z < 0
  · by_cases h2 : t < 0
    · have : ¬ t * z < 0 := by have := Int.mul_pos_of_neg_of_neg h2 h1; omega
      simp [h1, h2, this, Int.mul_neg, Int.neg_mul]
    · have : t * z < 0 := Int.mul_neg_of_pos_of_neg (by omega) h1
      simp [h1, h2, this, Int.mul_neg]
  · by_cases h2 : t < 0
    · have : t * z < 0 := Int.mul_neg_of_neg_of_pos h2 (by omega)
      simp [h1, h2, this, Int.neg_mul]
    · have : ¬ t * z < 0 := by have := Int.mul_pos (a := t) (b := z) (by omega) (by omega); omega
      simp [h1, h2, this]
theorem div_scl (t z d : Int) (hd : d ∣ t) (hd0 : d ≠ 0) (hz : z ≠ 0) : t * z / (d * z) = t / d := by
  obtain ⟨k, rfl⟩ := hd
  rw [Int.mul_ediv_cancel_left _ hd0, Int.mul_right_comm, Int.mul_ediv_cancel_left]
  exact Int.mul_ne_zero hd0 hz
theorem sn_scl {l : List Tm} (h : Canon l) (z : Int) (hz : z ≠ 0) : snL (sclL z l) = snL l := by
  cases l with
  | nil => rfl
  | cons t l =>
    have hd : dvs (sclL z (t :: l)) = dvs (t :: l) * z := by
      unfold dvs
      rw [gcL_scl]
      exact dvs_mul t.1 z _ (h.ne t List.mem_cons_self) hz
    have hn := dvs_ne h (by simp)
    unfold snL
    rw [hd]
    unfold divL sclL
    rw [List.map_map]
    refine List.map_congr_left fun s hs => ?_
    show (s.1 * z / (dvs (t :: l) * z), s.2) = (s.1 / dvs (t :: l), s.2)
    rw [div_scl _ _ _ (dvs_dvd hs) hn hz]
theorem sn_sg {l : List Tm} (h : Canon l) (hn : l ≠ []) : sgL (snL l) = 1 := by
  cases l with
  | nil => exact absurd rfl hn
  | cons t l =>
    have hd := dvs_dvd (l := t :: l) (t := t) List.mem_cons_self
    have h0 := h.ne t List.mem_cons_self
    have hp : 0 < gcL (t :: l) := gcL_pos h hn
    have hk := Int.ediv_mul_cancel hd
    show sgnOf (t.1 / dvs (t :: l)) = 1
    have hs : 0 < t.1 / dvs (t :: l) := by
      generalize t.1 / dvs (t :: l) = k at *
      have hx : dvs (t :: l) = if decide (t.1 < 0) = true then -(gcL (t :: l) : Int) else (gcL (t :: l) : Int) := rfl
      generalize gcL (t :: l) = g at *
      by_cases ht : t.1 < 0
      · rw [hx] at hk
        simp only [ht, decide_true, if_true] at hk
        refine Int.lt_of_not_ge fun hk0 => ?_
        have : 0 ≤ (-k) * g := Int.mul_nonneg (by omega) (by omega)
        rw [Int.neg_mul] at this
        rw [Int.mul_neg] at hk
        omega
      · rw [hx] at hk
        simp only [ht, decide_false, Bool.false_eq_true, if_false] at hk
        refine Int.lt_of_not_ge fun hk0 => ?_
        have : 0 ≤ (-k) * g := Int.mul_nonneg (by omega) (by omega)
        rw [Int.neg_mul] at this
        omega
    unfold sgnOf
    rw [if_neg (by omega), if_neg (by omega)]
theorem sn_len (l : List Tm) : (snL l).length = l.length := by simp [snL, divL]
/-- the quotient's size -/
theorem quot_abs (t d : Int) (hd : d ∣ t) (hd0 : d ≠ 0) : t.natAbs / d.natAbs = (t / d).natAbs := by
  obtain ⟨k, rfl⟩ := hd
  rw [Int.mul_ediv_cancel_left _ hd0, Int.natAbs_mul, Nat.mul_div_cancel_left]
  omega
theorem div_abs_le (t d : Int) (hd : d ∣ t) (hd0 : d ≠ 0) : (t / d).natAbs ≤ t.natAbs := by
  rw [← quot_abs t d hd hd0]
  exact Nat.div_le_self _ _
theorem nrm_map_le (f : Tm → Tm) (l : List Tm) (h : ∀ t ∈ l, (f t).1.natAbs ≤ t.1.natAbs) : nrm (l.map f) ≤ nrm l := by
  induction l with
  | nil => exact Nat.le_refl _
  | cons t l ih =>
    have h1 := h t List.mem_cons_self
    have h2 := ih fun s hs => h s (List.mem_cons_of_mem _ hs)
    simp only [List.map_cons, nrm]
    omega
theorem sn_nrm {l : List Tm} (h : Canon l) : nrm (snL l) ≤ nrm l := by
  cases l with
  | nil => exact Nat.le_refl _
  | cons t l => exact nrm_map_le _ _ fun s hs => div_abs_le _ _ (dvs_dvd hs) (dvs_ne h (by simp))
theorem gcL_le_nrm {l : List Tm} (h : Canon l) : gcL l ≤ nrm l := by
  cases l with
  | nil => exact Nat.le_refl _
  | cons t l =>
    have h1 := Nat.le_of_dvd (by have := h.ne t List.mem_cons_self; omega) (gcL_dvd (l := t :: l) (t := t) List.mem_cons_self)
    exact Nat.le_trans h1 (nrm_mem List.mem_cons_self)
end Go.Proofs.Ytpbapoanjkekmaa
