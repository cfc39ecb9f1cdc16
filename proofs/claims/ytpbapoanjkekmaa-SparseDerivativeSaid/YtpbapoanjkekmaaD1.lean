/- Plain laws of derivatives. -/
import Derived.Test.YtpbapoanjkekmaaL3
namespace Go.Proofs.Ytpbapoanjkekmaa

/-- the exponent of variable i (0 to 3) -/
def exM (i : Nat) (m : Mo) : Int := match i with | 0 => m.1 | 1 => m.2.1 | 2 => m.2.2.1 | _ => m.2.2.2
/-- that exponent one less -/
def decM (i : Nat) (m : Mo) : Mo := match i with | 0 => (m.1 - 1, m.2.1, m.2.2.1, m.2.2.2) | 1 => (m.1, m.2.1 - 1, m.2.2.1, m.2.2.2) | 2 => (m.1, m.2.1, m.2.2.1 - 1, m.2.2.2) | _ => (m.1, m.2.1, m.2.2.1, m.2.2.2 - 1)
def dW (i : Nat) (f : Mo → Int) (m : Mo) : Int := if 0 < exM i m then exM i m * f (decM i m) else 0
def dT (i : Nat) (t : Tm) : List Tm := if 0 < exM i t.2 then [(t.1 * exM i t.2, decM i t.2)] else []
def dL (i : Nat) (l : List Tm) : List Tm := l.flatMap (dT i)
theorem dL_snoc (i : Nat) (l : List Tm) (t : Tm) : dL i (l ++ [t]) = dL i l ++ dT i t := by simp [dL]
theorem dec_cases (i : Nat) : i = 0 ∨ i = 1 ∨ i = 2 ∨ ∃ k, i = k + 3 := by
  match i with
  | 0 => exact .inl rfl
  | 1 => exact .inr (.inl rfl)
  | 2 => exact .inr (.inr (.inl rfl))
  | k + 3 => exact .inr (.inr (.inr ⟨k, rfl⟩))
theorem vld_dec {i : Nat} {m : Mo} (h : 0 < exM i m) : vld (decM i m) = vld m := by
  rcases dec_cases i with rfl | rfl | rfl | ⟨k, rfl⟩ <;> simp only [exM] at h <;> (rw [Bool.eq_iff_iff, vld_iff, vld_iff]; simp only [decM]; omega)
theorem dec_add_l {i : Nat} (a b : Mo) : decM i (addM a b) = addM (decM i a) b := by
  rcases dec_cases i with rfl | rfl | rfl | ⟨k, rfl⟩ <;> simp only [decM, addM, Prod.mk.injEq, and_true, true_and] <;> omega
theorem dec_add_r {i : Nat} (a b : Mo) : decM i (addM a b) = addM a (decM i b) := by rw [addM_comm, dec_add_l, addM_comm]
theorem ex_add (i : Nat) (a b : Mo) : exM i (addM a b) = exM i a + exM i b := by
  rcases dec_cases i with rfl | rfl | rfl | ⟨k, rfl⟩ <;> rfl
theorem ex_nn {i : Nat} {m : Mo} (h : vld m = true) : 0 ≤ exM i m := by
  rw [vld_iff] at h
  rcases dec_cases i with rfl | rfl | rfl | ⟨k, rfl⟩ <;> simp only [exM] <;> omega
theorem lin_dT (i : Nat) (f : Mo → Int) (t : Tm) : lin f (dT i t) = if vld t.2 = true then t.1 * dW i f t.2 else 0 := by
  unfold dT dW
  by_cases h : 0 < exM i t.2
  · rw [if_pos h, if_pos h]
    simp only [lin, vld_dec h]
    split <;> simp [Int.mul_assoc]
  · rw [if_neg h, if_neg h]
    simp [lin]
theorem lin_one (f : Mo → Int) (t : Tm) : lin f [t] = if vld t.2 = true then t.1 * f t.2 else 0 := by
  simp only [lin]
  split <;> simp
theorem lin_dL (i : Nat) (f : Mo → Int) (l : List Tm) : lin f (dL i l) = lin (dW i f) l := by
  induction l with
  | nil => rfl
  | cons t l ih =>
    have e : dL i (t :: l) = dT i t ++ dL i l := rfl
    have e2 : t :: l = [t] ++ l := rfl
    rw [e, lin_append, ih, lin_dT, e2, lin_append, lin_one]
/-- the coefficient of a derivative -/
def dC (i : Nat) (l : List Tm) (m : Mo) : Int := lin (dW i (fun x => if x = m then 1 else 0)) l
theorem cf_dL (i : Nat) (l : List Tm) (m : Mo) : cf (dL i l) m = dC i l m := lin_dL i _ l
theorem dC_ext {p q : List Tm} (h : ∀ m, cf p m = cf q m) (i : Nat) (m : Mo) : dC i p m = dC i q m := lin_ext h _
theorem dC_add {p q s : List Tm} (h : ∀ m, cf s m = cf p m + cf q m) (i : Nat) (m : Mo) : dC i s m = dC i p m + dC i q m := by
  have : ∀ m, cf s m = cf (p ++ q) m := fun m => by rw [h, cf_append]
  unfold dC
  rw [lin_ext this, lin_append]
theorem dW_add (i : Nat) (f : Mo → Int) {a b : Mo} (ha : vld a = true) (hb : vld b = true) : dW i f (addM a b) = dW i (fun x => f (addM x b)) a + dW i (fun x => f (addM a x)) b := by
  have h1 := ex_nn (i := i) ha
  have h2 := ex_nn (i := i) hb
  unfold dW
  rw [ex_add]
  simp only [← dec_add_l, ← dec_add_r]
  generalize f (decM i (addM a b)) = z
  by_cases k1 : 0 < exM i a <;> by_cases k2 : 0 < exM i b
  · rw [if_pos (by omega), if_pos k1, if_pos k2, Int.add_mul]
  · rw [if_pos (by omega), if_pos k1, if_neg k2, show exM i b = 0 by omega]; simp
  · rw [if_pos (by omega), if_neg k1, if_pos k2, show exM i a = 0 by omega]; simp
  · rw [if_neg (by omega), if_neg k1, if_neg k2]; rfl
theorem dW_lin (i : Nat) (g : Mo → Mo → Int) (q : List Tm) (a : Mo) : dW i (fun x => lin (fun b => g x b) q) a = lin (fun b => dW i (fun x => g x b) a) q := by
  unfold dW
  by_cases k : 0 < exM i a
  · simp only [if_pos k]
    rw [lin_mul_left]
  · simp only [if_neg k]
    rw [lin_zero]
/-- the product rule -/
theorem dC_mul (i : Nat) {p q r a b : List Tm} (hr : ∀ m, cf r m = mulC p q m) (ha : ∀ m, cf a m = dC i p m) (hb : ∀ m, cf b m = dC i q m) (m : Mo) : dC i r m = mulC a q m + mulC p b m := by
  have hr' : ∀ m, cf r m = cf (mulL (vF p) (vF q)) m := fun m => by rw [hr, cf_all_prod]
  have ha' : ∀ m, cf a m = cf (dL i p) m := fun m => by rw [ha, cf_dL]
  have hb' : ∀ m, cf b m = cf (dL i q) m := fun m => by rw [hb, cf_dL]
  rw [mulC_ext ha' (fun _ => rfl), mulC_ext (fun _ => rfl) hb']
  unfold dC mulC
  rw [lin_ext hr', lin_mulL _ _ _ (vF_vl p) (vF_vl q)]
  unfold mulW
  rw [lin_vF, lin_dL]
  simp only [lin_vF]
  rw [show lin (fun a => lin (fun b => (if addM a b = m then (1 : Int) else 0)) (dL i q)) p = lin (fun a => lin (dW i (fun b => if addM a b = m then (1 : Int) else 0)) q) p by simp only [lin_dL]]
  rw [← lin_add]
  refine lin_congr fun s _ hs => ?_
  rw [dW_lin, ← lin_add]
  exact lin_congr fun t _ ht => dW_add i (fun x => if x = m then 1 else 0) hs ht
theorem nrm_dT (i : Nat) (t : Tm) {K : Nat} (h : exM i t.2 ≤ (K : Int)) : nrm (dT i t) ≤ K * t.1.natAbs := by
  unfold dT
  split
  · have : (exM i t.2).natAbs ≤ K := by omega
    simp only [nrm, Nat.add_zero, Int.natAbs_mul]
    rw [Nat.mul_comm]
    exact Nat.mul_le_mul_right _ this
  · exact Nat.zero_le _
theorem nrm_dL (i : Nat) (l : List Tm) {K : Nat} (h : ∀ t ∈ l, exM i t.2 ≤ (K : Int)) : nrm (dL i l) ≤ K * nrm l := by
  induction l with
  | nil => simp [dL, nrm]
  | cons t l ih =>
    have e : dL i (t :: l) = dT i t ++ dL i l := rfl
    have e2 : nrm (t :: l) = t.1.natAbs + nrm l := rfl
    rw [e, nrm_append, e2, Nat.mul_add]
    exact Nat.add_le_add (nrm_dT i t (h t List.mem_cons_self)) (ih fun x hx => h x (List.mem_cons_of_mem _ hx))
theorem dT_len (i : Nat) (t : Tm) : (dT i t).length ≤ 1 := by unfold dT; split <;> simp
theorem dL_len (i : Nat) (l : List Tm) : (dL i l).length ≤ l.length := by
  induction l with
  | nil => simp [dL]
  | cons t l ih =>
    have e : dL i (t :: l) = dT i t ++ dL i l := rfl
    have := dT_len i t
    rw [e]
    simp only [List.length_append, List.length_cons]
    omega
theorem mem_dL {i : Nat} {l : List Tm} {t : Tm} (h : t ∈ dL i l) : ∃ s ∈ l, 0 < exM i s.2 ∧ t = (s.1 * exM i s.2, decM i s.2) := by
  obtain ⟨s, hs, ht⟩ := List.mem_flatMap.1 h
  unfold dT at ht
  split at ht
  · rename_i hp
    simp at ht
    exact ⟨s, hs, hp, ht⟩
  · cases ht
end Go.Proofs.Ytpbapoanjkekmaa
