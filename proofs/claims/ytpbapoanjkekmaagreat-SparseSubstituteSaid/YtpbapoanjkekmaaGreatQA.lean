/- Renaming of variables: plain laws. -/
import Derived.Test.YtpbapoanjkekmaaGreatPI
namespace Go.Proofs.YtpbapoanjkekmaaGreat

/-- where variable j goes -/
def tIx (tt : Mo) (j : Nat) : Nat := if 1 ≤ gt tt j ∧ gt tt j ≤ 4 then (gt tt j - 1).toNat else j
theorem tIx_lt (tt : Mo) {j : Nat} (h : j < 4) : tIx tt j < 4 := by unfold tIx; split <;> omega
def addAt (m : Mo) (i : Nat) (e : Int) : Mo :=
  match i with
  | 0 => (m.1 + e, m.2.1, m.2.2.1, m.2.2.2)
  | 1 => (m.1, m.2.1 + e, m.2.2.1, m.2.2.2)
  | 2 => (m.1, m.2.1, m.2.2.1 + e, m.2.2.2)
  | _ => (m.1, m.2.1, m.2.2.1, m.2.2.2 + e)
theorem four {i : Nat} (h : i < 4) : i = 0 ∨ i = 1 ∨ i = 2 ∨ i = 3 := by omega
theorem gt_addAt (m : Mo) (e : Int) {i k : Nat} (hi : i < 4) (hk : k < 4) : gt (addAt m i e) k = gt m k + if k = i then e else 0 := by
  rcases four hi with rfl | rfl | rfl | rfl <;> rcases four hk with rfl | rfl | rfl | rfl <;> simp [gt, addAt]
theorem moV_addAt (m : Mo) (e : Int) {i : Nat} (hi : i < 4) : (moV m).setIfInBounds i (.int .i64 (gt m i + e)) = moV (addAt m i e) := by
  rcases four hi with rfl | rfl | rfl | rfl <;> rfl
theorem vld_all {m : Mo} : vld m = true ↔ ∀ k, k < 4 → 0 ≤ gt m k := by
  rw [vld_iff]
  constructor
  · rintro ⟨a, b, c, d⟩ k hk
    rcases four hk with rfl | rfl | rfl | rfl <;> simpa [gt]
  · exact fun h => ⟨h 0 (by omega), h 1 (by omega), h 2 (by omega), h 3 (by omega)⟩
theorem vld_addAt {m : Mo} {e : Int} {i : Nat} (hi : i < 4) (hm : vld m = true) (he : 0 ≤ e) : vld (addAt m i e) = true := by
  rw [vld_all] at *
  intro k hk
  have := hm k hk
  rw [gt_addAt m e hi hk]
  split <;> omega
theorem mval_addAt (pt : Nat → Rat) {m : Mo} {e : Int} {i : Nat} (hi : i < 4) (hm : vld m = true) (he : 0 ≤ e) : mval pt (addAt m i e) = mval pt m * pt i ^ e.toNat := by
  rw [vld_iff] at hm
  obtain ⟨a, b, c, d⟩ := hm
  unfold mval
  rcases four hi with rfl | rfl | rfl | rfl <;> simp only [addAt]
  · rw [Int.toNat_add a he]; grind
  · rw [Int.toNat_add b he]; grind
  · rw [Int.toNat_add c he]; grind
  · rw [Int.toNat_add d he]; grind
/-- the renamed monomial after k rounds -/
def renTo (tt m : Mo) : Nat → Mo
  | 0 => (0, 0, 0, 0)
  | k + 1 => addAt (renTo tt m k) (tIx tt k) (gt m k)
def renM (tt m : Mo) : Mo := renTo tt m 4
theorem renTo_vld (tt : Mo) {m : Mo} (hm : vld m = true) : ∀ k, k ≤ 4 → vld (renTo tt m k) = true
  | 0, _ => rfl
  | k + 1, hk => vld_addAt (tIx_lt tt (by omega)) (renTo_vld tt hm k (by omega)) (vld_all.1 hm k (by omega))
theorem renTo_le (tt : Mo) {m : Mo} {E : Int} (h0 : 0 ≤ E) (hm : ∀ k, k < 4 → gt m k ≤ E) : ∀ k, k ≤ 4 → ∀ i, i < 4 → gt (renTo tt m k) i ≤ (k : Int) * E
  | 0, _, i, hi => by
    rcases four hi with rfl | rfl | rfl | rfl <;> simp [renTo, gt]
  | k + 1, hk, i, hi => by
    have h1 := renTo_le tt h0 hm k (by omega) i hi
    have h2 := hm k (by omega)
    have h3 : ((k + 1 : Nat) : Int) * E = (k : Int) * E + E := by rw [Int.natCast_add, Int.natCast_one, Int.add_mul, Int.one_mul]
    show gt (addAt (renTo tt m k) (tIx tt k) (gt m k)) i ≤ _
    rw [gt_addAt _ _ (tIx_lt tt (by omega)) hi, h3]
    split <;> omega
theorem MB_of {E : Int} {m : Mo} (h : ∀ k, k < 4 → gt m k ≤ E) : MB E m := ⟨h 0 (by omega), h 1 (by omega), h 2 (by omega), h 3 (by omega)⟩
theorem MB.each {E : Int} {m : Mo} (h : MB E m) (k : Nat) (hk : k < 4) : Go.Proofs.YtpbapoanjkekmaaGreat.gt m k ≤ E := by
  obtain ⟨a, b, c, d⟩ := h
  rcases four hk with rfl | rfl | rfl | rfl <;> assumption
theorem mval_ren (pt : Nat → Rat) (tt : Mo) {m : Mo} (hm : vld m = true) : mval pt (renM tt m) = mval (fun i => pt (tIx tt i)) m := by
  have step : ∀ k, k < 4 → mval pt (renTo tt m (k + 1)) = mval pt (renTo tt m k) * pt (tIx tt k) ^ (gt m k).toNat := fun k hk =>
    mval_addAt pt (tIx_lt tt hk) (renTo_vld tt hm k (by omega)) (vld_all.1 hm k hk)
  unfold renM
  rw [step 3 (by omega), step 2 (by omega), step 1 (by omega), step 0 (by omega)]
  unfold mval
  simp only [renTo, gt, Int.toNat_zero, Rat.pow_zero]
  grind
theorem renM_zero (m : Mo) : renM (0, 0, 0, 0) m = m := by
  have ht : ∀ j, tIx (0, 0, 0, 0) j = j := fun j => by
    unfold tIx
    rw [if_neg]
    rintro ⟨h, _⟩
    unfold gt at h
    split at h <;> exact absurd h (by decide)
  simp only [renM, renTo, ht, addAt, gt, Int.zero_add]
def rnL (tt : Mo) (l : List Tm) : List Tm := l.map fun t => (t.1, renM tt t.2)
def rnC (tt : Mo) (l : List Tm) (m : Mo) : Int := lin (fun x => if renM tt x = m then 1 else 0) l
theorem rnC_ext (tt : Mo) {p q : List Tm} (h : ∀ m, cf p m = cf q m) (m : Mo) : rnC tt p m = rnC tt q m := lin_ext h _
theorem rnL_vl (tt : Mo) {l : List Tm} (h : ∀ t ∈ l, vld t.2 = true) : ∀ t ∈ rnL tt l, vld t.2 = true := by
  intro t ht
  obtain ⟨s, hs, rfl⟩ := List.mem_map.1 ht
  exact renTo_vld tt (h s hs) 4 (Nat.le_refl _)
theorem cf_rnL (tt : Mo) (l : List Tm) (h : ∀ t ∈ l, vld t.2 = true) (m : Mo) : cf (rnL tt l) m = rnC tt l m := by
  unfold cf rnC
  induction l with
  | nil => rfl
  | cons t l ih =>
    have hv := h t List.mem_cons_self
    have ih' := ih fun s hs => h s (List.mem_cons_of_mem _ hs)
    unfold rnL at *
    simp only [List.map_cons, lin]
    rw [if_pos hv, if_pos (show vld (renM tt t.2) = true from renTo_vld tt hv 4 (Nat.le_refl _)), ih']
theorem rnC_zero (l : List Tm) (m : Mo) : rnC (0, 0, 0, 0) l m = cf l m := by
  unfold rnC cf
  simp only [renM_zero]
theorem nrm_rnL (tt : Mo) (l : List Tm) : nrm (rnL tt l) = nrm l := by
  induction l with
  | nil => rfl
  | cons t l ih =>
    unfold rnL at *
    simp only [List.map_cons, nrm, ih]
theorem rnL_snoc (tt : Mo) (pre : List PT) (x : PT) : rnL tt ((pre ++ [x]).map PT.tm) = rnL tt (pre.map PT.tm) ++ [(ival x.ng x.ds, renM tt x.m)] := by
  unfold rnL
  rw [List.map_append, List.map_append]
  rfl
theorem evL_pt {pt pt' : Nat → Rat} (h : ∀ i, i < 4 → pt i = pt' i) (l : List Tm) : evL pt l = evL pt' l := by
  have : mval pt = mval pt' := by
    funext m
    unfold mval
    rw [h 0 (by omega), h 1 (by omega), h 2 (by omega), h 3 (by omega)]
  unfold evL
  rw [this]
theorem evL_rnL (pt : Nat → Rat) (tt : Mo) (l : List Tm) (h : ∀ t ∈ l, vld t.2 = true) : evL pt (rnL tt l) = evL (fun i => pt (tIx tt i)) l := by
  induction l with
  | nil => rfl
  | cons t l ih =>
    have hv := h t List.mem_cons_self
    have ih' := ih fun s hs => h s (List.mem_cons_of_mem _ hs)
    unfold evL rnL at *
    simp only [List.map_cons, linQ]
    rw [if_pos hv, if_pos (show vld (renM tt t.2) = true from renTo_vld tt hv 4 (Nat.le_refl _)), ih', mval_ren pt tt hv]
/-- the value of a renamed polynomial -/
theorem evL_ren {tt : Mo} {p r : List Tm} (h : ∀ m, cf r m = rnC tt p m) (pt : Nat → Rat) : evL pt r = evL (fun i => pt (tIx tt i)) p := by
  rw [evL_ext (q := rnL tt (vF p)) (fun m => by rw [h, cf_rnL tt _ (vF_vl p)]; exact rnC_ext tt (fun m => (cf_vF p m).symm) m), evL_rnL pt tt _ (vF_vl p)]
  exact linQ_vF _ _
end Go.Proofs.YtpbapoanjkekmaaGreat
