/- From the plain law of 'Cover' to what the reference asks; 'Cover' with its law; the fixed example of 'awake'. -/
import Derived.Test.YtlfjpfbkkbhhjaaDoorP3
namespace Go.Proofs.YtlfjpfbkkbhhjaaDoor
open Go.RowKit

section
variable {N : Nat} {rows : List (List Int × Bool)} {ts : List (List Int)}
theorem permT_eq {t s : List Int} (ht : t.length = N) (hs : s.length = N) : permT t s = permTo t s N := by
  unfold permT; rw [ht, hs]; simp
theorem sets_of (h : CoverOk N rows ts) : setsB (N : Int) ts = true := by
  unfold setsB
  rw [allTo_iff]
  intro k hk
  obtain ⟨h1, h2⟩ := h.term _ (mem_getD hk)
  unfold termOk
  generalize ts.getD k [] = t at *
  rw [Bool.and_eq_true, decide_eq_true_eq]
  refine ⟨by omega, ?_⟩
  rw [allTo_iff]
  intro i hi
  have := h2 i (by omega)
  unfold setB
  rw [Bool.and_eq_true, decide_eq_true_eq, decide_eq_true_eq]
  exact this
theorem covers_of (hv : ValidP N rows) (h : CoverOk N rows ts) : covB ts rows = true := by
  unfold covB
  rw [allTo_iff]
  intro k hk
  unfold covRow
  cases ht : tr rows k with
  | true =>
    obtain ⟨t, htm, hp⟩ := h.yes k hk ht
    obtain ⟨q, hq, e⟩ := getD_of_mem htm
    have : anyTo (covAt ts rows k) ts.length = true := anyTo_true (k := q) (by unfold covAt; rw [e, permT_eq (h.term t htm).1 (hv k hk).1]; exact hp) hq
    rw [this]; rfl
  | false =>
    have : anyTo (covAt ts rows k) ts.length = false := by
      rw [← Bool.not_eq_true, anyTo_iff]
      rintro ⟨q, hq, hp⟩
      have hm := mem_getD hq
      unfold covAt at hp
      rw [permT_eq (h.term _ hm).1 (hv k hk).1, h.no k hk ht _ hm] at hp
      cases hp
    rw [this]; rfl
theorem okBit_of (hv : ValidP N rows) (h : CoverOk N rows ts) {t : List Int} (ht : t ∈ ts) {i : Nat} (hi : i < N) {s : Int} (hs : Sgn s) : okBit t i rows (bitOf s) = true := by
  unfold okBit
  cases hm : meet (cAt t i) s with
  | true =>
    have : (!(bits .and .i64 (t.getD i 0) (bitOf s) == 0)) = true := hm
    rw [this]; rfl
  | false =>
    obtain ⟨k, hk, h1, h2⟩ := h.prime t ht i hi s hs hm
    have hf : falseB (t.set i (bits .or .i64 (t.getD i 0) (bitOf s))) rows = true := by
      refine anyTo_true (k := k) ?_ hk
      unfold falseAt
      rw [h1, permT_eq (by simpa using (h.term t ht).1) (hv k hk).1]
      exact h2
    rw [hf]; simp
theorem prime_of (hv : ValidP N rows) (h : CoverOk N rows ts) : primeB ts rows = true := by
  unfold primeB
  rw [allTo_iff]
  intro k hk
  have hm := mem_getD hk
  unfold primeT
  rw [allTo_iff]
  intro i hi
  rw [(h.term _ hm).1] at hi
  unfold primeAt
  have h1 := okBit_of hv h hm hi (s := -1) ⟨by omega, by omega⟩
  have h2 := okBit_of hv h hm hi (s := 0) ⟨by omega, by omega⟩
  have h3 := okBit_of hv h hm hi (s := 1) ⟨by omega, by omega⟩
  rw [show bitOf (-1) = 1 from rfl] at h1
  rw [show bitOf 0 = 2 from rfl] at h2
  rw [show bitOf 1 = 4 from rfl] at h3
  rw [h1, h2, h3]; rfl
theorem need_of (hv : ValidP N rows) (h : CoverOk N rows ts) : needB ts rows = true := by
  unfold needB
  rw [allTo_iff]
  intro a ha
  obtain ⟨k, hk, h1, h2, h3⟩ := h.need a ha
  unfold needT
  refine anyTo_true (k := k) ?_ hk
  unfold aloneAt baseAt
  rw [h1, permT_eq (h.term _ (mem_getD ha)).1 (hv k hk).1, h2]
  have : allTo (otherAt ts rows a k) ts.length = true := by
    rw [allTo_iff]
    intro b hb
    unfold otherAt
    by_cases e : b = a
    · simp [e]
    · rw [permT_eq (h.term _ (mem_getD hb)).1 (hv k hk).1, h3 b hb e]; simp
  rw [this]; rfl
end

/-- how 'Cover' ends, with its law -/
def CoverGood (x : Int) (rows : List (List Int × Bool)) (w : World) (e : Ending) (w' : World) : Prop :=
  ∃ A1 c1 ts, e = .returned (.tuple #[.slice A1 (List.length ts) c1, .int .i64 (errOf x rows)]) ∧ ListsAt w' w'.heap.size A1 ts ∧ (errOf x rows ≠ 0 → ts = []) ∧
    (errOf x rows = 0 → ∃ N : Nat, x = (N : Int) ∧ ValidP N rows ∧ CoverOk N rows ts) ∧ Below w.heap.size w w'
theorem coverGood_of {x : Int} {rows : List (List Int × Bool)} {w : World} {e : Ending} {w' : World} (h : CoverPost x rows w e w') : CoverGood x rows w e w' := by
  obtain ⟨h | h | h, hb⟩ := h
  · obtain ⟨h1, rfl⟩ := h
    have e1 : errOf x rows = 1 := by
      unfold errOf
      by_cases hx : x < 0
      · rw [if_pos hx]
      · rw [if_neg hx, if_pos (h1.resolve_left hx)]
    refine ⟨none, 0, [], by rw [e1]; rfl, fun h0 => absurd h0 (by simp), fun _ => rfl, fun h0 => ?_, hb⟩
    rw [e1] at h0; cases h0
  · obtain ⟨⟨h1, h2, h3⟩, rfl⟩ := h
    have e1 : errOf x rows = 5 := by
      unfold errOf
      rw [if_neg (by omega), if_neg (by rw [h2]; simp), if_pos (by rw [← codeSep_eq]; exact h3)]
    refine ⟨none, 0, [], by rw [e1]; rfl, fun h0 => absurd h0 (by simp), fun _ => rfl, fun h0 => ?_, hb⟩
    rw [e1] at h0; cases h0
  · obtain ⟨⟨h1, h2, h3⟩, A1, c1, rfl, hl⟩ := h
    have e1 : errOf x rows = 0 := by
      unfold errOf
      rw [if_neg (by omega), if_neg (by rw [h2]; simp), if_neg (by rw [← codeSep_eq, h3]; simp)]
    obtain ⟨N, rfl⟩ : ∃ N : Nat, x = (N : Int) := ⟨x.toNat, by omega⟩
    have hv := validB_iff.1 h2
    exact ⟨A1, c1, coverL rows, by rw [e1], hl, fun h0 => absurd e1 h0, fun _ => ⟨N, rfl, hv, cover_ok hv (codeSep_iff.1 h3)⟩, hb⟩

/-- few rows of few signs, in memory below B -/
structure RowsIn (w : World) (B : Nat) (A : Option Addr) (rows : List (List Int × Bool)) : Prop where
  at_ : RowsAt w B A rows
  few : rows.length ≤ 90
  six : ∀ k, k < rows.length → (sg rows k).length ≤ 6
  i64 : ∀ k, k < rows.length → ∀ x ∈ sg rows k, In64 x
theorem RowsIn.below {w w' : World} {B : Nat} {A : Option Addr} {rows : List (List Int × Bool)} (h : RowsIn w B A rows) (hb : Below B w w') : RowsIn w' B A rows := ⟨h.at_.below hb, h.few, h.six, h.i64⟩

theorem Cover_good (x : Int) (hx6 : x ≤ 6) (A : Option Addr) (c B : Nat) (rows : List (List Int × Bool)) (w : World) (hB : B ≤ w.heap.size) (hr : RowsIn w B A rows) (htab : TabOk w) :
    Calls Tryd.prog 10 #[.int .i64 x, .slice A rows.length c] w (CoverGood x rows w) :=
  (Cover_any x hx6 A rows.length c B rows w hB hr.at_ rfl hr.few hr.six hr.i64 htab (fun _ h => pick_signs (validB_iff.1 h) (Nat.le_refl _)) (fun _ h k hk => (pick_signs (b := false) (validB_iff.1 h) (Nat.le_refl _) k hk).1)).mono fun _ _ h => coverGood_of h

/-! ### the fixed example -/
def awRows : List (List Int × Bool) := [([0], true), ([1], false), ([-1], false)]
theorem only_two {x : Int} (h0 : 1 ≤ x) (h1 : x ≤ 7) (hp : meet x 1 = false) (hm : meet x (-1) = false) : x = 2 := by
  obtain rfl | rfl | rfl | rfl | rfl | rfl | rfl | rfl := eight (x := x) (by omega) h1
  all_goals first | rfl | (exfalso; revert hp; decide +kernel) | (exfalso; revert hm; decide +kernel) | omega
theorem permTo_one (t s : List Int) : permTo t s 1 = meet (cAt t 0) (cAt s 0) := by
  simp [permTo, cAt]
theorem aw_cover {ts : List (List Int)} (h : CoverOk 1 awRows ts) : ts = [[2]] := by
  have hall : ∀ t ∈ ts, t = [2] := fun t ht => by
    obtain ⟨h1, h2⟩ := h.term t ht
    have a1 := h.no 1 (by decide) rfl t ht
    have a2 := h.no 2 (by decide) rfl t ht
    rw [permTo_one] at a1 a2
    have := only_two (h2 0 (by omega)).1 (h2 0 (by omega)).2 a1 a2
    match t, h1 with
    | [y], _ => simp [cAt] at this; rw [this]
  obtain ⟨t0, ht0, _⟩ := h.yes 0 (by decide) rfl
  match ts, h, hall, ht0 with
  | [a], _, hall, _ => rw [hall a (by simp)]
  | a :: b :: r, h, hall, _ =>
    exfalso
    obtain ⟨k, hk, _, h2, h3⟩ := h.need 0 (by simp)
    have := h3 1 (by simp) (by omega)
    have ea := hall a (by simp)
    have eb := hall b (by simp)
    rw [show (a :: b :: r).getD 0 [] = a from rfl, ea] at h2
    rw [show (a :: b :: r).getD 1 [] = b from rfl, eb, h2] at this
    cases this
theorem aw_err : errOf 1 awRows = 0 := by decide
end Go.Proofs.YtlfjpfbkkbhhjaaDoor
