/- Replacing a variable by a polynomial: plain laws. -/
import Derived.Test.YtpbapoanjkekmaaGreatQA
import Derived.Test.YtpbapoanjkekmaaGreatPK
namespace Go.Proofs.YtpbapoanjkekmaaGreat

/-- a monomial without variable i -/
def zAt (m : Mo) : Nat → Mo
  | 0 => (0, m.2.1, m.2.2.1, m.2.2.2)
  | 1 => (m.1, 0, m.2.2.1, m.2.2.2)
  | 2 => (m.1, m.2.1, 0, m.2.2.2)
  | _ => (m.1, m.2.1, m.2.2.1, 0)
def zT (i : Nat) (t : Tm) : Tm := (t.1, zAt t.2 i)
def zP (i : Nat) (p : PT) : PT := { p with m := zAt p.m i }
theorem zP_tm (i : Nat) (p : PT) : (zP i p).tm = zT i p.tm := rfl
theorem gt_zAt (m : Mo) {i k : Nat} (hi : i < 4) (hk : k < 4) : gt (zAt m i) k = if k = i then 0 else gt m k := by
  rcases four hi with rfl | rfl | rfl | rfl <;> rcases four hk with rfl | rfl | rfl | rfl <;> rfl
theorem vld_zAt {m : Mo} {i : Nat} (hi : i < 4) (h : vld m = true) : vld (zAt m i) = true := by
  rw [vld_all] at *
  intro k hk
  have := h k hk
  rw [gt_zAt m hi hk]
  split <;> omega
theorem zAt_back (m : Mo) {i : Nat} (hi : i < 4) : addM (zAt m i) (addAt (0, 0, 0, 0) i (gt m i)) = m := by
  rcases four hi with rfl | rfl | rfl | rfl <;> simp [addM, zAt, addAt, gt]
theorem zP_cells (i : Nat) (hi : i < 4) (p : PT) : p.cells.toArray.setIfInBounds (2 + i) (.int .i64 0) = (zP i p).cells.toArray := by
  rcases four hi with rfl | rfl | rfl | rfl <;> rfl
theorem lin_zT (f : Mo → Int) (i : Nat) (hi : i < 4) (l : List Tm) (h : ∀ t ∈ l, vld t.2 = true) : lin f (l.map (zT i)) = lin (fun x => f (zAt x i)) l := by
  induction l with
  | nil => rfl
  | cons t l ih =>
    have hv := h t List.mem_cons_self
    simp only [List.map_cons, lin]
    rw [ih fun s hs => h s (List.mem_cons_of_mem _ hs), if_pos hv, if_pos (show vld (zT i t).2 = true from vld_zAt hi hv)]
    rfl
/-- what a monomial becomes: the coefficient of m in it -/
def subW (i : Nat) (Q : List Tm) (m x : Mo) : Int := lin (fun b => if addM (zAt x i) b = m then 1 else 0) (powL Q (gt x i).toNat)
def subC (i : Nat) (Q l : List Tm) (m : Mo) : Int := lin (subW i Q m) l
theorem subC_ext (i : Nat) (Q : List Tm) {l l' : List Tm} (h : ∀ m, cf l m = cf l' m) (m : Mo) : subC i Q l m = subC i Q l' m := lin_ext h _
theorem subC_perm (i : Nat) (Q : List Tm) {l l' : List Tm} (h : l.Perm l') (m : Mo) : subC i Q l m = subC i Q l' m := lin_perm _ h
theorem subC_append (i : Nat) (Q l l' : List Tm) (m : Mo) : subC i Q (l ++ l') m = subC i Q l m + subC i Q l' m := lin_append _ _ _
/-- the terms of one exponent -/
theorem subC_group {i : Nat} (hi : i < 4) {Q C R : List Tm} {e : Nat} (hv : ∀ t ∈ C, vld t.2 = true) (he : ∀ t ∈ C, gt t.2 i = (e : Int)) (hR : ∀ m, cf R m = cf (powL Q e) m) (m : Mo) : mulC (C.map (zT i)) R m = subC i Q C m := by
  rw [mulC_ext (p' := C.map (zT i)) (q' := powL Q e) (fun _ => rfl) hR]
  unfold mulC mulW subC
  rw [lin_zT _ i hi C hv]
  refine lin_congr fun t ht _ => ?_
  unfold subW
  rw [he t ht, Int.toNat_natCast]
theorem cf_powL_ext {Q X : List Tm} (hQ : ∀ t ∈ Q, vld t.2 = true) (hX : ∀ t ∈ X, vld t.2 = true) (h : ∀ m, cf Q m = cf X m) : ∀ n m, cf (powL Q n) m = cf (powL X n) m
  | 0, _ => rfl
  | n + 1, m => by
    have e1 : cf (mulL (powL Q n) Q) m = mulC (powL Q n) Q m := by rw [← cf_all_prod, vF_id (powL_vl hQ n), vF_id hQ]
    have e2 : cf (mulL (powL X n) X) m = mulC (powL X n) X m := by rw [← cf_all_prod, vF_id (powL_vl hX n), vF_id hX]
    show cf (mulL (powL Q n) Q) m = cf (mulL (powL X n) X) m
    rw [e1, e2]
    exact mulC_ext (cf_powL_ext hQ hX h n) h m
theorem subC_Q (i : Nat) {Q X : List Tm} (hQ : ∀ t ∈ Q, vld t.2 = true) (hX : ∀ t ∈ X, vld t.2 = true) (h : ∀ m, cf Q m = cf X m) (l : List Tm) (m : Mo) : subC i Q l m = subC i X l m :=
  lin_congr fun _ _ _ => lin_ext (fun m => cf_powL_ext hQ hX h _ m) _
/-- a variable in its own place -/
def uL (i : Nat) : List Tm := [(1, addAt (0, 0, 0, 0) i 1)]
theorem uL_vl {i : Nat} (hi : i < 4) : ∀ t ∈ uL i, vld t.2 = true := by
  intro t ht
  rw [List.mem_singleton.1 ht]
  exact vld_addAt hi (by rfl) (by omega)
theorem powL_uL {i : Nat} (hi : i < 4) : ∀ n : Nat, powL (uL i) n = [(1, addAt (0, 0, 0, 0) i (n : Int))]
  | 0 => by
    rcases four hi with rfl | rfl | rfl | rfl <;> rfl
  | n + 1 => by
    show mulL (powL (uL i) n) (uL i) = _
    rw [powL_uL hi n]
    unfold mulL uL
    rcases four hi with rfl | rfl | rfl | rfl <;> simp [addM, addAt]
theorem subC_uL {i : Nat} (hi : i < 4) (l : List Tm) (m : Mo) : subC i (uL i) l m = cf l m := by
  unfold cf subC
  refine lin_congr fun t _ hv => ?_
  have h0 := vld_all.1 hv i hi
  unfold subW
  rw [powL_uL hi, Int.toNat_of_nonneg h0]
  simp only [lin]
  rw [if_pos (vld_addAt hi (by rfl) h0), zAt_back _ hi]
  omega
/-- the polynomial in which variable i was replaced, as a list -/
def subL (i : Nat) (Q : List Tm) : List Tm → List Tm
  | [] => []
  | t :: l => mulL [zT i t] (powL Q (gt t.2 i).toNat) ++ subL i Q l
theorem cf_subL {i : Nat} (hi : i < 4) {Q : List Tm} (hQ : ∀ t ∈ Q, vld t.2 = true) (l : List Tm) (h : ∀ t ∈ l, vld t.2 = true) (m : Mo) : cf (subL i Q l) m = subC i Q l m := by
  induction l with
  | nil => rfl
  | cons t l ih =>
    have hv := h t List.mem_cons_self
    have h1 : ∀ s ∈ [zT i t], vld s.2 = true := fun s hs => by rw [List.mem_singleton.1 hs]; exact vld_zAt hi hv
    have e1 : cf (mulL [zT i t] (powL Q (gt t.2 i).toNat)) m = mulC [zT i t] (powL Q (gt t.2 i).toNat) m := by rw [← cf_all_prod, vF_id (powL_vl hQ _), vF_id h1]
    show cf (mulL [zT i t] (powL Q (gt t.2 i).toNat) ++ subL i Q l) m = _
    rw [cf_append, e1, ih fun s hs => h s (List.mem_cons_of_mem _ hs)]
    unfold subC mulC mulW
    simp only [lin]
    rw [if_pos hv, if_pos (show vld (zT i t).2 = true from vld_zAt hi hv)]
    show t.1 * _ + 0 + _ = t.1 * _ + _
    rw [Int.add_zero]
    rfl
/-- a point with coordinate i replaced -/
def ptAt (pt : Nat → Rat) (i : Nat) (x : Rat) (j : Nat) : Rat := if j = i then x else pt j
theorem mval_ptAt (pt : Nat → Rat) {i : Nat} (hi : i < 4) (x : Rat) (m : Mo) : mval (ptAt pt i x) m = mval pt (zAt m i) * x ^ (gt m i).toNat := by
  unfold mval ptAt
  rcases four hi with rfl | rfl | rfl | rfl <;> simp only [zAt, gt, if_true, Int.toNat_zero, Rat.pow_zero] <;> simp <;> grind
theorem evL_subL (pt : Nat → Rat) {i : Nat} (hi : i < 4) {Q : List Tm} (hQ : ∀ t ∈ Q, vld t.2 = true) (l : List Tm) (h : ∀ t ∈ l, vld t.2 = true) : evL pt (subL i Q l) = evL (ptAt pt i (evL pt Q)) l := by
  induction l with
  | nil => rfl
  | cons t l ih =>
    have hv := h t List.mem_cons_self
    have h1 : ∀ s ∈ [zT i t], vld s.2 = true := fun s hs => by rw [List.mem_singleton.1 hs]; exact vld_zAt hi hv
    have e1 : evL (ptAt pt i (evL pt Q)) (t :: l) = (if vld t.2 = true then (t.1 : Rat) * mval (ptAt pt i (evL pt Q)) t.2 else 0) + evL (ptAt pt i (evL pt Q)) l := rfl
    have e2 : evL pt [zT i t] = (if vld (zT i t).2 = true then (t.1 : Rat) * mval pt (zAt t.2 i) else 0) + 0 := rfl
    show evL pt (mulL [zT i t] (powL Q (gt t.2 i).toNat) ++ subL i Q l) = _
    rw [evL_append, evL_mulL pt h1 (powL_vl hQ _), evL_pow pt hQ, ih fun s hs => h s (List.mem_cons_of_mem _ hs), e1, e2, if_pos hv, if_pos (show vld (zT i t).2 = true from vld_zAt hi hv), mval_ptAt pt hi]
    grind
/-- the value of a polynomial in which a variable was replaced -/
theorem evL_sub {i : Nat} (hi : i < 4) {Q p r : List Tm} (hQ : ∀ t ∈ Q, vld t.2 = true) (h : ∀ m, cf r m = subC i Q p m) (pt : Nat → Rat) : evL pt r = evL (ptAt pt i (evL pt Q)) p := by
  rw [evL_ext (q := subL i Q (vF p)) (fun m => by rw [h, cf_subL hi hQ _ (vF_vl p)]; exact subC_ext i Q (fun m => (cf_vF p m).symm) m), evL_subL pt hi hQ _ (vF_vl p)]
  exact linQ_vF _ _
end Go.Proofs.YtpbapoanjkekmaaGreat
