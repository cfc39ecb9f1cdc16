/- The plain law of 'widen': what it reckons permits the given signs, none of the others, and no sign can be added. -/
import Derived.Test.YtlfjpfbkkbhhjaaDoorS7
namespace Go.Proofs.YtlfjpfbkkbhhjaaDoor
open Go.RowKit

theorem three {s : Int} (h0 : -1 ≤ s) (h1 : s ≤ 1) : s = -1 ∨ s = 0 ∨ s = 1 := by omega
theorem eight {x : Int} (h0 : 0 ≤ x) (h1 : x ≤ 7) : x = 0 ∨ x = 1 ∨ x = 2 ∨ x = 3 ∨ x = 4 ∨ x = 5 ∨ x = 6 ∨ x = 7 := by omega
def Sgn (s : Int) : Prop := -1 ≤ s ∧ s ≤ 1
theorem meet_bit {s s' : Int} (h : Sgn s) (h' : Sgn s') : meet (bitOf s) s' = decide (s = s') := by
  obtain rfl | rfl | rfl := three h.1 h.2 <;> obtain rfl | rfl | rfl := three h'.1 h'.2 <;> decide +kernel
theorem meet_or {x s s' : Int} (h0 : 0 ≤ x) (h1 : x ≤ 7) (h : Sgn s) (h' : Sgn s') : meet (bits .or .i64 x (bitOf s)) s' = (meet x s' || decide (s = s')) := by
  obtain rfl | rfl | rfl | rfl | rfl | rfl | rfl | rfl := eight h0 h1 <;> obtain rfl | rfl | rfl := three h.1 h.2 <;> obtain rfl | rfl | rfl := three h'.1 h'.2 <;> decide +kernel
theorem or_bd {x s : Int} (h0 : 0 ≤ x) (h1 : x ≤ 7) (h : Sgn s) : 1 ≤ bits .or .i64 x (bitOf s) ∧ bits .or .i64 x (bitOf s) ≤ 7 := by
  obtain rfl | rfl | rfl | rfl | rfl | rfl | rfl | rfl := eight h0 h1 <;> obtain rfl | rfl | rfl := three h.1 h.2 <;> decide +kernel
theorem bit_bd {s : Int} (h : Sgn s) : 1 ≤ bitOf s ∧ bitOf s ≤ 7 := by
  obtain rfl | rfl | rfl := three h.1 h.2 <;> decide

def lack (b : Bool) : Int := if b then 0 else 1
theorem lack_bd (b : Bool) : 0 ≤ lack b ∧ lack b ≤ 1 := by cases b <;> decide
/-- how many places refuse -/
def miss (t z : List Int) : Nat → Int
  | 0 => 0
  | n + 1 => miss t z n + lack (meet (cAt t n) (cAt z n))
theorem miss_nonneg (t z : List Int) (n : Nat) : 0 ≤ miss t z n := by
  induction n with
  | zero => simp [miss]
  | succ n ih => have := lack_bd (meet (cAt t n) (cAt z n)); unfold miss; omega
theorem miss_zero (t z : List Int) (n : Nat) : miss t z n = 0 ↔ permTo t z n = true := by
  induction n with
  | zero => simp [miss, permTo]
  | succ n ih =>
    have := miss_nonneg t z n
    rw [permTo_succ]
    unfold miss
    change miss t z n + lack (meet (cAt t n) (cAt z n)) = 0 ↔ (permTo t z n && meet (cAt t n) (cAt z n)) = true
    cases meet (cAt t n) (cAt z n)
    · simp [lack]; omega
    · rw [Bool.and_true, ← ih]; simp [lack]
theorem miss_set (t z : List Int) (i n : Nat) (x : Int) (hi : i < t.length) :
    miss (t.set i x) z n = miss t z n + if i < n then lack (meet x (cAt z i)) - lack (meet (cAt t i) (cAt z i)) else 0 := by
  induction n with
  | zero => simp [miss]
  | succ n ih =>
    unfold miss
    rw [ih, cAt_set _ _ _ _ hi]
    by_cases hin : i = n
    · subst hin
      simp only [Nat.lt_irrefl, if_false, if_true, Nat.lt_succ_self]
      omega
    · simp only [hin, if_false]
      by_cases h2 : i < n
      · simp only [h2, if_true, show i < n + 1 by omega]; omega
      · simp only [h2, if_false, show ¬ i < n + 1 by omega]; omega

theorem tTo_at (ss : List Int) (i j : Nat) (hi : i ≤ ss.length) (hj : j < i) : cAt (tTo ss i) j = bitOf (cAt ss j) := by
  induction i with
  | zero => omega
  | succ i ih =>
    unfold tTo
    rw [cAt_set _ _ _ _ (by rw [tTo_len]; omega)]
    by_cases h : i = j
    · rw [if_pos h, h]
    · rw [if_neg h]; exact ih (by omega) (by omega)
theorem b1To_at (ss : List Int) (no : List (List Int)) (i k : Nat) (hk : k < no.length) (hs : ∀ j, j < i → Sgn (cAt ss j)) (hn : ∀ j, j < i → Sgn (cAt (no.getD k []) j)) (t : List Int) (ht : ∀ j, j < i → cAt t j = bitOf (cAt ss j)) :
    cAt (b1To ss no i) k = miss t (no.getD k []) i := by
  induction i with
  | zero => simp [b1To, cAt_replicate, miss]
  | succ i ih =>
    have ih := ih (fun j hj => hs j (by omega)) (fun j hj => hn j (by omega)) (fun j hj => ht j (by omega))
    simp only [b1To, miss]
    rw [addTo_at _ _ _ _ _ (by rw [b1To_len]; omega), ih, ht i (by omega), meet_bit (hs i (by omega)) (hn i (by omega))]
    congr 1
    unfold differs
    generalize no.getD k [] = z
    by_cases h : cAt z i = cAt ss i
    · simp [h, lack]
    · have h' : ¬ cAt ss i = cAt z i := fun e => h e.symm
      simp [h, h', hk, lack]

/-- what stands at every step of 'widen' -/
structure WInv (N : Nat) (y : List Int) (no : List (List Int)) (x : List Int × List Int) : Prop where
  tlen : x.1.length = N
  blen : x.2.length = no.length
  bd : ∀ i, i < N → 1 ≤ cAt x.1 i ∧ cAt x.1 i ≤ 7
  cnt : ∀ k, k < no.length → cAt x.2 k = miss x.1 (no.getD k []) N
  pos : ∀ k, k < no.length → 1 ≤ cAt x.2 k
  perm : ∀ i, i < N → meet (cAt x.1 i) (cAt y i) = true
/-- this sign of this set is settled -/
def Done (no : List (List Int)) (x : List Int × List Int) (i : Nat) (s : Int) : Prop := meet (cAt x.1 i) s = true ∨ ∃ k, k < no.length ∧ cAt (no.getD k []) i = s ∧ cAt x.2 k = 1

theorem freeB_iff {no : List (List Int)} {bl : List Int} {i : Nat} {s : Int} : freeB no bl i s = true ↔ ∀ k, k < no.length → ¬ (cAt (no.getD k []) i = s ∧ cAt bl k = 1) := by
  unfold freeB
  rw [allTo_iff]
  constructor
  · intro h k hk ⟨h1, h2⟩
    have := h k hk
    unfold freeAt at this
    rw [h1, h2] at this
    simp at this
  · intro h k hk
    have := h k hk
    unfold freeAt
    simp only [Bool.not_eq_true', Bool.and_eq_false_iff, beq_eq_false_iff_ne]
    by_cases h1 : cAt (no.getD k []) i = s
    · exact .inr (fun h2 => this ⟨h1, h2⟩)
    · exact .inl h1

theorem step2_inv {N : Nat} {y : List Int} {no : List (List Int)} {x : List Int × List Int} {i : Nat} {s : Int} (h : WInv N y no x) (hi : i < N) (hs : Sgn s) (hy : ∀ j, j < N → Sgn (cAt y j)) (hno : ∀ k, k < no.length → ∀ j, j < N → Sgn (cAt (no.getD k []) j)) :
    WInv N y no (step2 no i s x) ∧ Done no (step2 no i s x) i s ∧ ∀ j r, Sgn r → Done no x j r → Done no (step2 no i s x) j r := by
  have hb := h.bd i hi
  unfold step2
  by_cases hc : (meet (cAt x.1 i) s || !freeB no x.2 i s) = true
  · rw [if_pos hc]
    refine ⟨h, ?_, fun _ _ _ hd => hd⟩
    cases hm : meet (cAt x.1 i) s with
    | true => exact .inl hm
    | false =>
      rw [hm] at hc
      have hf : freeB no x.2 i s = false := by simpa using hc
      have : ¬ freeB no x.2 i s = true := by rw [hf]; simp
      rw [freeB_iff] at this
      have h2 : ∃ k, k < no.length ∧ cAt (no.getD k []) i = s ∧ cAt x.2 k = 1 := by
        apply Classical.byContradiction
        intro hne
        exact this fun k hk hkk => hne ⟨k, hk, hkk⟩
      exact .inr h2
  · rw [if_neg hc]
    have hm : meet (cAt x.1 i) s = false := by
      cases hm : meet (cAt x.1 i) s with
      | true => rw [hm] at hc; simp at hc
      | false => rfl
    have hf : freeB no x.2 i s = true := by
      rw [hm] at hc
      simpa using hc
    rw [freeB_iff] at hf
    have hset : ∀ j, cAt (x.1.set i (bits .or .i64 (cAt x.1 i) (bitOf s))) j = if i = j then bits .or .i64 (cAt x.1 i) (bitOf s) else cAt x.1 j := fun j => cAt_set _ _ _ _ (by rw [h.tlen]; exact hi)
    have hbl : ∀ k, k < no.length → cAt (addTo (agrees no i s) (-1) x.2 no.length) k = cAt x.2 k + if cAt (no.getD k []) i = s then -1 else 0 := fun k hk => by
      rw [addTo_at _ _ _ _ _ (by rw [h.blen]; omega)]
      congr 1
      unfold agrees
      generalize no.getD k [] = z
      simp [hk]
    have hgrow : ∀ j r, Sgn r → meet (cAt x.1 j) r = true → meet (cAt (x.1.set i (bits .or .i64 (cAt x.1 i) (bitOf s))) j) r = true := fun j r hr hmt => by
      rw [hset]
      by_cases hij : i = j
      · rw [if_pos hij, meet_or (by omega) (by omega) hs hr, hij, hmt]; rfl
      · rw [if_neg hij]; exact hmt
    refine ⟨⟨by simp [h.tlen], by simp [addTo_len, h.blen], fun j hj => ?_, fun k hk => ?_, fun k hk => ?_, fun j hj => hgrow j _ (hy j hj) (h.perm j hj)⟩, .inl ?_, fun j r hr hd => ?_⟩
    · simp only
      rw [hset]
      by_cases hij : i = j
      · rw [if_pos hij]; exact or_bd (by omega) (by omega) hs
      · rw [if_neg hij]; exact h.bd j hj
    · simp only
      rw [hbl k hk, h.cnt k hk, miss_set _ _ _ _ _ (by rw [h.tlen]; exact hi), if_pos hi, meet_or (by omega) (by omega) hs (hno k hk i hi)]
      congr 1
      by_cases hz : cAt (no.getD k []) i = s
      · rw [if_pos hz, hz, hm]; simp [lack]
      · rw [if_neg hz]
        have hz' : ¬ s = cAt (no.getD k []) i := fun e => hz e.symm
        simp only [hz', decide_false, Bool.or_false]
        omega
    · simp only
      rw [hbl k hk]
      have h1 := h.pos k hk
      have h2 := hf k hk
      split
      · rename_i hz
        have : cAt x.2 k ≠ 1 := fun e => h2 ⟨hz, e⟩
        omega
      · omega
    · simp only
      rw [hset, if_pos rfl, meet_or (by omega) (by omega) hs hs]
      simp
    · rcases hd with hd | ⟨k, hk, h1, h2⟩
      · exact .inl (hgrow j r hr hd)
      · refine .inr ⟨k, hk, h1, ?_⟩
        simp only
        rw [hbl k hk, h2]
        have h3 := hf k hk
        split
        · rename_i hz; exact absurd ⟨hz, h2⟩ h3
        · rfl

theorem inTo_inv {N : Nat} {y : List Int} {no : List (List Int)} {x : List Int × List Int} {i : Nat} (h : WInv N y no x) (hi : i < N) (hy : ∀ j, j < N → Sgn (cAt y j)) (hno : ∀ k, k < no.length → ∀ j, j < N → Sgn (cAt (no.getD k []) j)) (r : Nat) (hr : r ≤ 3) :
    WInv N y no (inTo no i x r) ∧ (∀ q, q < r → Done no (inTo no i x r) i ((q : Int) - 1)) ∧ ∀ j s, Sgn s → Done no x j s → Done no (inTo no i x r) j s := by
  induction r with
  | zero => exact ⟨h, fun q hq => absurd hq (by omega), fun _ _ _ hd => hd⟩
  | succ r ih =>
    obtain ⟨h1, h2, h3⟩ := ih (by omega)
    obtain ⟨g1, g2, g3⟩ := step2_inv h1 hi (s := (r : Int) - 1) ⟨by omega, by omega⟩ hy hno
    refine ⟨g1, fun q hq => ?_, fun j s hs hd => g3 j s hs (h3 j s hs hd)⟩
    by_cases hqr : q = r
    · subst hqr; exact g2
    · exact g3 i _ ⟨by omega, by omega⟩ (h2 q (by omega))

theorem outTo_inv {y : List Int} {no : List (List Int)} (hy : ∀ j, j < y.length → Sgn (cAt y j)) (hno : ∀ k, k < no.length → ∀ j, j < y.length → Sgn (cAt (no.getD k []) j))
    (hne : ∀ k, k < no.length → permTo (tTo y y.length) (no.getD k []) y.length = false) (q : Nat) (hq : q ≤ y.length) :
    WInv y.length y no (outTo y no q) ∧ ∀ i, y.length - q ≤ i → i < y.length → ∀ s, Sgn s → Done no (outTo y no q) i s := by
  induction q with
  | zero =>
    refine ⟨⟨tTo_len .., b1To_len .., fun i hi => ?_, fun k hk => ?_, fun k hk => ?_, fun i hi => ?_⟩, fun i h1 h2 => by omega⟩
    · simp only [outTo]; rw [tTo_at _ _ _ (Nat.le_refl _) hi]; exact bit_bd (hy i hi)
    · exact b1To_at y no y.length k hk hy (hno k hk) _ (fun j hj => tTo_at _ _ _ (Nat.le_refl _) hj)
    · have e := b1To_at y no y.length k hk hy (hno k hk) (tTo y y.length) (fun j hj => tTo_at _ _ _ (Nat.le_refl _) hj)
      simp only [outTo]
      rw [e]
      have h0 := miss_nonneg (tTo y y.length) (no.getD k []) y.length
      have h1 : miss (tTo y y.length) (no.getD k []) y.length ≠ 0 := fun e => by
        rw [miss_zero, hne k hk] at e; cases e
      omega
    · simp only [outTo]; rw [tTo_at _ _ _ (Nat.le_refl _) hi, meet_bit (hy i hi) (hy i hi)]; simp
  | succ q ih =>
    obtain ⟨h1, h2⟩ := ih (by omega)
    obtain ⟨g1, g2, g3⟩ := inTo_inv (i := y.length - 1 - q) h1 (by omega) hy hno 3 (Nat.le_refl _)
    refine ⟨g1, fun i hi1 hi2 s hs => ?_⟩
    by_cases hiq : i = y.length - 1 - q
    · subst hiq
      have := g2 (s + 1).toNat (by have := hs.1; have := hs.2; omega)
      rw [show (((s + 1).toNat : Nat) : Int) - 1 = s by have := hs.1; omega] at this
      exact this
    · exact g3 i s hs (h2 i (by omega) hi2 s hs)

/-- what 'widen' promises -/
structure WTerm (N : Nat) (no : List (List Int)) (t : List Int) : Prop where
  len : t.length = N
  bd : ∀ i, i < N → 1 ≤ cAt t i ∧ cAt t i ≤ 7
  refuse : ∀ k, k < no.length → permTo t (no.getD k []) N = false
  prime : ∀ i, i < N → ∀ s, Sgn s → meet (cAt t i) s = false → ∃ k, k < no.length ∧ permTo (t.set i (bits .or .i64 (cAt t i) (bitOf s))) (no.getD k []) N = true
theorem widenT_ok {y : List Int} {no : List (List Int)} (hy : ∀ j, j < y.length → Sgn (cAt y j)) (hno : ∀ k, k < no.length → ∀ j, j < y.length → Sgn (cAt (no.getD k []) j)) (hl : ∀ k, k < no.length → (no.getD k []).length = y.length) (hne : y ∉ no) :
    WTerm y.length no (widenT y no) ∧ permTo (widenT y no) y y.length = true := by
  have hne' : ∀ k, k < no.length → permTo (tTo y y.length) (no.getD k []) y.length = false := fun k hk => by
    rw [← Bool.not_eq_true]
    intro hp
    apply hne
    have : y = no.getD k [] := by
      apply List.ext_getElem (hl k hk).symm
      intro i h1 h2
      have := List.all_eq_true.1 hp i (List.mem_range.2 h1)
      have e1 := tTo_at y y.length i (Nat.le_refl _) h1
      change meet (cAt (tTo y y.length) i) (cAt (no.getD k []) i) = true at this
      rw [e1, meet_bit (hy i h1) (hno k hk i h1)] at this
      have := of_decide_eq_true this
      unfold cAt at this
      rw [List.getD_eq_getElem?_getD, List.getD_eq_getElem?_getD, List.getElem?_eq_getElem h1, List.getElem?_eq_getElem h2] at this
      exact this
    rw [this, List.getD_eq_getElem?_getD, List.getElem?_eq_getElem hk]
    exact List.getElem_mem _
  obtain ⟨h1, h2⟩ := outTo_inv hy hno hne' y.length (Nat.le_refl _)
  refine ⟨⟨h1.tlen, h1.bd, fun k hk => ?_, fun i hi s hs hm => ?_⟩, ?_⟩
  · rw [← Bool.not_eq_true]
    intro hp
    have e := h1.cnt k hk
    have e2 := h1.pos k hk
    rw [← miss_zero] at hp
    unfold widenT at hp
    omega
  · rcases h2 i (by omega) hi s hs with hd | ⟨k, hk, hz, hc⟩
    · unfold widenT at hm; rw [hd] at hm; cases hm
    · refine ⟨k, hk, ?_⟩
      rw [← miss_zero]
      have hb := h1.bd i hi
      unfold widenT at hm ⊢
      rw [miss_set _ _ _ _ _ (by rw [h1.tlen]; exact hi), if_pos hi, hz, meet_or (by omega) (by omega) hs hs, hm, ← h1.cnt k hk, hc]
      simp [lack]
  · rw [← miss_zero]
    apply Classical.byContradiction
    intro hne0
    have : ∀ n, n ≤ y.length → miss (widenT y no) y n = 0 := by
      intro n
      induction n with
      | zero => intro _; rfl
      | succ n ih =>
        intro hn
        unfold miss
        rw [ih (by omega)]
        have := h1.perm n (by omega)
        unfold widenT
        rw [this]
        rfl
    exact hne0 (this _ (Nat.le_refl _))
end Go.Proofs.YtlfjpfbkkbhhjaaDoor
