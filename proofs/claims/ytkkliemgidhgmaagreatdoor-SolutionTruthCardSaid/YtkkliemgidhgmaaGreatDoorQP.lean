/- The plain law of 'widen': what it reckons permits the given signs, none of the others, and no sign can be added. -/
import Derived.Test.YtkkliemgidhgmaaGreatDoorQT
namespace Go.Proofs.YtkkliemgidhgmaaGreatDoor
open Go.RowKit

theorem three {s : Int} (h0 : -1 ≤ s) (h1 : s ≤ 1) : s = -1 ∨ s = 0 ∨ s = 1 := by omega
theorem eight {x : Int} (h0 : 0 ≤ x) (h1 : x ≤ 7) : x = 0 ∨ x = 1 ∨ x = 2 ∨ x = 3 ∨ x = 4 ∨ x = 5 ∨ x = 6 ∨ x = 7 := by omega
def Sgn (s : Int) : Prop := -1 ≤ s ∧ s ≤ 1
theorem meet_bit {s s' : Int} (h : Sgn s) (h' : Sgn s') : meet (bitOf s) s' = decide (s = s') := by
  obtain rfl | rfl | rfl := three h.1 h.2 <;> obtain rfl | rfl | rfl := three h'.1 h'.2 <;> decide +kernel
theorem meet_or {x s s' : Int} (h0 : 0 ≤ x) (h1 : x ≤ 7) (h : Sgn s) (h' : Sgn s') : meet (bits .or .i64 x (bitOf s)) s' = (meet x s' || decide (s = s')) := by
  obtain rfl | rfl | rfl | rfl | rfl | rfl | rfl | rfl := eight h0 h1 <;> obtain rfl | rfl | rfl := three h.1 h.2 <;> obtain rfl | rfl | rfl := three h'.1 h'.2 <;> decide +kernel
theorem or_bd {x s : Int} (h0 : 0 ≤ x) (h1 : x ≤ 7) (h : Sgn s) : 1 ≤ bits .or .i64 x (bitOf s) ∧ bits .or .i64 x (bitOf s) ≤ 7 := by
  obtain rfl | rfl | rfl | rfl | rfl | rfl | rfl | rfl := eight h0 h1 <;> obtain rfl | rfl | rfl := three h.1 h.2 <;> decide +kernel
theorem bit_bd {s : Int} (h : Sgn s) : 1 ≤ bitOf s ∧ bitOf s ≤ 7 := by
  obtain rfl | rfl | rfl := three h.1 h.2 <;> decide

def lack (b : Bool) : Int := if b then 0 else 1
theorem lack_bd (b : Bool) : 0 ≤ lack b ∧ lack b ≤ 1 := by cases b <;> decide
/-- how many places refuse -/
def miss (t z : List Int) : Nat → Int
  | 0 => 0
  | n + 1 => miss t z n + lack (meet (cAt t n) (cAt z n))
theorem miss_nonneg (t z : List Int) (n : Nat) : 0 ≤ miss t z n := by
  induction n with
  | zero => simp [miss]
  | succ n ih => have := lack_bd (meet (cAt t n) (cAt z n)); unfold miss; omega
theorem miss_zero (t z : List Int) (n : Nat) : miss t z n = 0 ↔ permTo t z n = true := by
  induction n with
  | zero => simp [miss, permTo]
  | succ n ih =>
    have := miss_nonneg t z n
    rw [permTo_succ]
    unfold miss
    change miss t z n + lack (meet (cAt t n) (cAt z n)) = 0 ↔ (permTo t z n && meet (cAt t n) (cAt z n)) = true
    cases meet (cAt t n) (cAt z n)
    · simp [lack]; omega
    · rw [Bool.and_true, ← ih]; simp [lack]
theorem miss_set (t z : List Int) (i n : Nat) (x : Int) (hi : i < t.length) :
    miss (t.set i x) z n = miss t z n + if i < n then lack (meet x (cAt z i)) - lack (meet (cAt t i) (cAt z i)) else 0 := by
  induction n with
  | zero => simp [miss]
  | succ n ih =>
    unfold miss
    rw [ih, cAt_set _ _ _ _ hi]
    by_cases hin : i = n
    · subst hin
      simp only [Nat.lt_irrefl, if_false, if_true, Nat.lt_succ_self]
      omega
    · simp only [hin, if_false]
      by_cases h2 : i < n
      · simp only [h2, if_true, show i < n + 1 by omega]; omega
      · simp only [h2, if_false, show ¬ i < n + 1 by omega]; omega

theorem tTo_at (ss : List Int) (i j : Nat) (hi : i ≤ ss.length) (hj : j < i) : cAt (tTo ss i) j = bitOf (cAt ss j) := by
  induction i with
  | zero => omega
  | succ i ih =>
    unfold tTo
    rw [cAt_set _ _ _ _ (by rw [tTo_len]; omega)]
    by_cases h : i = j
    · rw [if_pos h, h]
    · rw [if_neg h]; exact ih (by omega) (by omega)
theorem b1To_at (ss : List Int) (no : List (List Int)) (i k : Nat) (hk : k < no.length) (hs : ∀ j, j < i → Sgn (cAt ss j)) (hn : ∀ j, j < i → Sgn (cAt (no.getD k []) j)) (t : List Int) (ht : ∀ j, j < i → cAt t j = bitOf (cAt ss j)) :
    cAt (b1To ss no i) k = miss t (no.getD k []) i := by
  induction i with
  | zero => simp [b1To, cAt_replicate, miss]
  | succ i ih =>
    have ih := ih (fun j hj => hs j (by omega)) (fun j hj => hn j (by omega)) (fun j hj => ht j (by omega))
    simp only [b1To, miss]
    rw [addTo_at _ _ _ _ _ (by rw [b1To_len]; omega), ih, ht i (by omega), meet_bit (hs i (by omega)) (hn i (by omega))]
    congr 1
    unfold differs
    generalize no.getD k [] = z
    by_cases h : cAt z i = cAt ss i
    · simp [h, lack]
    · have h' : ¬ cAt ss i = cAt z i := fun e => h e.symm
      simp [h, h', hk, lack]

/-- what stands at every step of 'widen' -/
structure WInv (N : Nat) (y : List Int) (no : List (List Int)) (x : List Int × List Int) : Prop where
  tlen : x.1.length = N
  blen : x.2.length = no.length
  bd : ∀ i, i < N → 1 ≤ cAt x.1 i ∧ cAt x.1 i ≤ 7
  cnt : ∀ k, k < no.length → cAt x.2 k = miss x.1 (no.getD k []) N
  pos : ∀ k, k < no.length → 1 ≤ cAt x.2 k
  perm : ∀ i, i < N → meet (cAt x.1 i) (cAt y i) = true
/-- this sign of this set is settled -/
def Done (no : List (List Int)) (x : List Int × List Int) (i : Nat) (s : Int) : Prop := meet (cAt x.1 i) s = true ∨ ∃ k, k < no.length ∧ cAt (no.getD k []) i = s ∧ cAt x.2 k = 1

theorem freeB_iff {no : List (List Int)} {bl : List Int} {i : Nat} {s : Int} : freeB no bl i s = true ↔ ∀ k, k < no.length → ¬ (cAt (no.getD k []) i = s ∧ cAt bl k = 1) := by
  unfold freeB
  rw [allTo_iff]
  constructor
  · intro h k hk ⟨h1, h2⟩
    have := h k hk
    unfold freeAt at this
    rw [h1, h2] at this
    simp at this
  · intro h k hk
    have := h k hk
    unfold freeAt
    simp only [Bool.not_eq_true', Bool.and_eq_false_iff, beq_eq_false_iff_ne]
    by_cases h1 : cAt (no.getD k []) i = s
    · exact .inr (fun h2 => this ⟨h1, h2⟩)
    · exact .inl h1

theorem step2_inv {N : Nat} {y : List Int} {no : List (List Int)} {x : List Int × List Int} {i : Nat} {s : Int} (h : WInv N y no x) (hi : i < N) (hs : Sgn s) (hy : ∀ j, j < N → Sgn (cAt y j)) (hno : ∀ k, k < no.length → ∀ j, j < N → Sgn (cAt (no.getD k []) j)) :
    WInv N y no (step2 no i s x) ∧ Done no (step2 no i s x) i s ∧ ∀ j r, Sgn r → Done no x j r → Done no (step2 no i s x) j r := by
  have hb := h.bd i hi
  unfold step2
  by_cases hc : (meet (cAt x.1 i) s || !freeB no x.2 i s) = true
  · rw [if_pos hc]
    refine ⟨h, ?_, fun _ _ _ hd => hd⟩
    cases hm : meet (cAt x.1 i) s with
    | true => exact .inl hm
    | false =>
      rw [hm] at hc
      have hf : freeB no x.2 i s = false := by simpa using hc
      have : ¬ freeB no x.2 i s = true := by rw [hf]; simp
      rw [freeB_iff] at this
      have h2 : ∃ k, k < no.length ∧ cAt (no.getD k []) i = s ∧ cAt x.2 k = 1 := by
        apply Classical.byContradiction
        intro hne
        exact this fun k hk hkk => hne ⟨k, hk, hkk⟩
      exact .inr h2
  · rw [if_neg hc]
    have hm : meet (cAt x.1 i) s = false := by
      cases hm : meet (cAt x.1 i) s with
      | true => rw [hm] at hc; simp at hc
      | false => rfl
    have hf : freeB no x.2 i s = true := by
      rw [hm] at hc
      simpa using hc
    rw [freeB_iff] at hf
    have hset : ∀ j, cAt (x.1.set i (bits .or .i64 (cAt x.1 i) (bitOf s))) j = if i = j then bits .or .i64 (cAt x.1 i) (bitOf s) else cAt x.1 j := fun j => cAt_set _ _ _ _ (by rw [h.tlen]; exact hi)
    have hbl : ∀ k, k < no.length → cAt (addTo (agrees no i s) (-1) x.2 no.length) k = cAt x.2 k + if cAt (no.getD k []) i = s then -1 else 0 := fun k hk => by
      rw [addTo_at _ _ _ _ _ (by rw [h.blen]; omega)]
      congr 1
      unfold agrees
      generalize no.getD k [] = z
      simp [hk]
    have hgrow : ∀ j r, Sgn r → meet (cAt x.1 j) r = true → meet (cAt (x.1.set i (bits .or .i64 (cAt x.1 i) (bitOf s))) j) r = true := fun j r hr hmt => by
      rw [hset]
      by_cases hij : i = j
      · rw [if_pos hij, meet_or (by omega) (by omega) hs hr, hij, hmt]; rfl
      · rw [if_neg hij]; exact hmt
    refine ⟨⟨by simp [h.tlen], by simp [addTo_len, h.blen], fun j hj => ?_, fun k hk => ?_, fun k hk => ?_, fun j hj => hgrow j _ (hy j hj) (h.perm j hj)⟩, .inl ?_, fun j r hr hd => ?_⟩
    · simp only
      rw [hset]
      by_cases hij : i = j
      · rw [if_pos hij]; exact or_bd (by omega) (by omega) hs
      · rw [if_neg hij]; exact h.bd j hj
    · simp only
      rw [hbl k hk, h.cnt k hk, miss_set _ _ _ _ _ (by rw [h.tlen]; exact hi), if_pos hi, meet_or (by omega) (by omega) hs (hno k hk i hi)]
      congr 1
      by_cases hz : cAt (no.getD k []) i = s
      · rw [if_pos hz, hz, hm]; simp [lack]
      · rw [if_neg hz]
        have hz' : ¬ s = cAt (no.getD k []) i := fun e => hz e.symm
        simp only [hz', decide_false, Bool.or_false]
        omega
    · simp only
      rw [hbl k hk]
      have h1 := h.pos k hk
      have h2 := hf k hk
      split
      · rename_i hz
        have : cAt x.2 k ≠ 1 := fun e => h2 ⟨hz, e⟩
        omega
      · omega
    · simp only
      rw [hset, if_pos rfl, meet_or (by omega) (by omega) hs hs]
      simp
    · rcases hd with hd | ⟨k, hk, h1, h2⟩
      · exact .inl (hgrow j r hr hd)
      · refine .inr ⟨k, hk, h1, ?_⟩
        simp only
        rw [hbl k hk, h2]
        have h3 := hf k hk
        split
        · rename_i hz; exact absurd ⟨hz, h2⟩ h3
        · rfl

theorem inTo_inv {N : Nat} {y : List Int} {no : List (List Int)} {x : List Int × List Int} {i : Nat} (h : WInv N y no x) (hi : i < N) (hy : ∀ j, j < N → Sgn (cAt y j)) (hno : ∀ k, k < no.length → ∀ j, j < N → Sgn (cAt (no.getD k []) j)) (r : Nat) (hr : r ≤ 3) :
    WInv N y no (inTo no i x r) ∧ (∀ q, q < r → Done no (inTo no i x r) i ((q : Int) - 1)) ∧ ∀ j s, Sgn s → Done no x j s → Done no (inTo no i x r) j s := by
  induction r with
  | zero => exact ⟨h, fun q hq => absurd hq (by omega), fun _ _ _ hd => hd⟩
  | succ r ih =>
    obtain ⟨h1, h2, h3⟩ := ih (by omega)
    obtain ⟨g1, g2, g3⟩ := step2_inv h1 hi (s := (r : Int) - 1) ⟨by omega, by omega⟩ hy hno
    refine ⟨g1, fun q hq => ?_, fun j s hs hd => g3 j s hs (h3 j s hs hd)⟩
    by_cases hqr : q = r
    · subst hqr; exact g2
    · exact g3 i _ ⟨by omega, by omega⟩ (h2 q (by omega))

theorem outTo_inv {y : List Int} {no : List (List Int)} (hy : ∀ j, j < y.length → Sgn (cAt y j)) (hno : ∀ k, k < no.length → ∀ j, j < y.length → Sgn (cAt (no.getD k []) j))
    (hne : ∀ k, k < no.length → permTo (tTo y y.length) (no.getD k []) y.length = false) (q : Nat) (hq : q ≤ y.length) :
    WInv y.length y no (outTo y no q) ∧ ∀ i, y.length - q ≤ i → i < y.length → ∀ s, Sgn s → Done no (outTo y no q) i s := by
  induction q with
  | zero =>
    refine ⟨⟨tTo_len .., b1To_len .., fun i hi => ?_, fun k hk => ?_, fun k hk => ?_, fun i hi => ?_⟩, fun i h1 h2 => by omega⟩
    · simp only [outTo]; rw [tTo_at _ _ _ (Nat.le_refl _) hi]; exact bit_bd (hy i hi)
    · exact b1To_at y no y.length k hk hy (hno k hk) _ (fun j hj => tTo_at _ _ _ (Nat.le_refl _) hj)
    · have e := b1To_at y no y.length k hk hy (hno k hk) (tTo y y.length) (fun j hj => tTo_at _ _ _ (Nat.le_refl _) hj)
      simp only [outTo]
      rw [e]
      have h0 := miss_nonneg (tTo y y.length) (no.getD k []) y.length
      have h1 : miss (tTo y y.length) (no.getD k []) y.length ≠ 0 := fun e => by
        rw [miss_zero, hne k hk] at e; cases e
      omega
    · simp only [outTo]; rw [tTo_at _ _ _ (Nat.le_refl _) hi, meet_bit (hy i hi) (hy i hi)]; simp
  | succ q ih =>
    obtain ⟨h1, h2⟩ := ih (by omega)
    obtain ⟨g1, g2, g3⟩ := inTo_inv (i := y.length - 1 - q) h1 (by omega) hy hno 3 (Nat.le_refl _)
    refine ⟨g1, fun i hi1 hi2 s hs => ?_⟩
    by_cases hiq : i = y.length - 1 - q
    · subst hiq
      have := g2 (s + 1).toNat (by have := hs.1; have := hs.2; omega)
      rw [show (((s + 1).toNat : Nat) : Int) - 1 = s by have := hs.1; omega] at this
      exact this
    · exact g3 i s hs (h2 i (by omega) hi2 s hs)

/-- what 'widen' promises -/
structure WTerm (N : Nat) (no : List (List Int)) (t : List Int) : Prop where
  len : t.length = N
  bd : ∀ i, i < N → 1 ≤ cAt t i ∧ cAt t i ≤ 7
  refuse : ∀ k, k < no.length → permTo t (no.getD k []) N = false
  prime : ∀ i, i < N → ∀ s, Sgn s → meet (cAt t i) s = false → ∃ k, k < no.length ∧ permTo (t.set i (bits .or .i64 (cAt t i) (bitOf s))) (no.getD k []) N = true
theorem widenT_ok {y : List Int} {no : List (List Int)} (hy : ∀ j, j < y.length → Sgn (cAt y j)) (hno : ∀ k, k < no.length → ∀ j, j < y.length → Sgn (cAt (no.getD k []) j)) (hl : ∀ k, k < no.length → (no.getD k []).length = y.length) (hne : y ∉ no) :
    WTerm y.length no (widenT y no) ∧ permTo (widenT y no) y y.length = true := by
  have hne' : ∀ k, k < no.length → permTo (tTo y y.length) (no.getD k []) y.length = false := fun k hk => by
    rw [← Bool.not_eq_true]
    intro hp
    apply hne
    have : y = no.getD k [] := by
      apply List.ext_getElem (hl k hk).symm
      intro i h1 h2
      have := List.all_eq_true.1 hp i (List.mem_range.2 h1)
      have e1 := tTo_at y y.length i (Nat.le_refl _) h1
      change meet (cAt (tTo y y.length) i) (cAt (no.getD k []) i) = true at this
      rw [e1, meet_bit (hy i h1) (hno k hk i h1)] at this
      have := of_decide_eq_true this
      unfold cAt at this
      rw [List.getD_eq_getElem?_getD, List.getD_eq_getElem?_getD, List.getElem?_eq_getElem h1, List.getElem?_eq_getElem h2] at this
      exact this
    rw [this, List.getD_eq_getElem?_getD, List.getElem?_eq_getElem hk]
    exact List.getElem_mem _
  obtain ⟨h1, h2⟩ := outTo_inv hy hno hne' y.length (Nat.le_refl _)
  refine ⟨⟨h1.tlen, h1.bd, fun k hk => ?_, fun i hi s hs hm => ?_⟩, ?_⟩
  · rw [← Bool.not_eq_true]
    intro hp
    have e := h1.cnt k hk
    have e2 := h1.pos k hk
    rw [← miss_zero] at hp
    unfold widenT at hp
    omega
  · rcases h2 i (by omega) hi s hs with hd | ⟨k, hk, hz, hc⟩
    · unfold widenT at hm; rw [hd] at hm; cases hm
    · refine ⟨k, hk, ?_⟩
      rw [← miss_zero]
      have hb := h1.bd i hi
      unfold widenT at hm ⊢
      rw [miss_set _ _ _ _ _ (by rw [h1.tlen]; exact hi), if_pos hi, hz, meet_or (by omega) (by omega) hs hs, hm, ← h1.cnt k hk, hc]
      simp [lack]
  · rw [← miss_zero]
    apply Classical.byContradiction
    intro hne0
    have : ∀ n, n ≤ y.length → miss (widenT y no) y n = 0 := by
      intro n
      induction n with
      | zero => intro _; rfl
      | succ n ih =>
        intro hn
        unfold miss
        rw [ih (by omega)]
        have := h1.perm n (by omega)
        unfold widenT
        rw [this]
        rfl
    exact hne0 (this _ (Nat.le_refl _))
end Go.Proofs.YtkkliemgidhgmaaGreatDoor

/- The plain laws of 'key', 'Separated', 'split', 'needed' and 'Cover'. -/
namespace Go.Proofs.YtkkliemgidhgmaaGreatDoor
open Go.RowKit

/-! ### the key determines the signs -/
theorem dec_digit (u : Nat) : ∀ c ∈ Lib.decDigits u, 48 ≤ c.toNat ∧ c.toNat ≤ 57 := by
  induction u using Nat.strongRecOn with
  | _ u ih =>
    intro c hc
    unfold Lib.decDigits at hc
    split at hc
    · rename_i h
      rw [List.mem_singleton] at hc
      subst hc
      rw [UInt8.toNat_ofNat']
      omega
    · rename_i h
      rcases List.mem_append.1 hc with h1 | h1
      · exact ih (u / 10) (by omega) c h1
      · rw [List.mem_singleton] at h1
        subst h1
        rw [UInt8.toNat_ofNat']
        omega
def decVal (l : List UInt8) : Nat := l.foldl (fun a c => 10 * a + (c.toNat - 48)) 0
theorem decVal_snoc (l : List UInt8) (c : UInt8) : decVal (l ++ [c]) = 10 * decVal l + (c.toNat - 48) := by simp [decVal]
theorem decVal_dec (u : Nat) : decVal (Lib.decDigits u) = u := by
  induction u using Nat.strongRecOn with
  | _ u ih =>
    unfold Lib.decDigits
    split
    · rename_i h
      simp only [decVal, List.foldl_cons, List.foldl_nil, UInt8.toNat_ofNat']
      omega
    · rename_i h
      rw [decVal_snoc, ih (u / 10) (by omega), UInt8.toNat_ofNat']
      omega
theorem dec_inj {u v : Nat} (h : Lib.decDigits u = Lib.decDigits v) : u = v := by
  rw [← decVal_dec u, h, decVal_dec]
theorem itoa_comma (x : Int) : (44 : UInt8) ∉ Lib.itoa x := by
  intro h
  unfold Lib.itoa at h
  split at h
  · rcases List.mem_cons.1 h with h | h
    · exact absurd h (by decide)
    · have := dec_digit _ _ h; simp at this
  · have := dec_digit _ _ h; simp at this
theorem dec_head (u : Nat) (l : List UInt8) : Lib.decDigits u ≠ 45 :: l := by
  intro h
  have := dec_digit u 45 (by rw [h]; simp)
  simp at this
theorem itoa_inj {x y : Int} (h : Lib.itoa x = Lib.itoa y) : x = y := by
  unfold Lib.itoa at h
  split at h <;> split at h
  · injection h with _ h
    have := dec_inj h
    omega
  · exact absurd h.symm (dec_head _ _)
  · exact absurd h (dec_head _ _)
  · have := dec_inj h
    omega
theorem split_at_comma {a b p q : List UInt8} (ha : (44 : UInt8) ∉ a) (hb : (44 : UInt8) ∉ b) (h : a ++ 44 :: p = b ++ 44 :: q) : a = b ∧ p = q := by
  induction a generalizing b with
  | nil =>
    cases b with
    | nil => simpa using h
    | cons c b =>
      simp at h
      exact absurd h.1.symm (fun e => hb (by rw [← e]; simp))
  | cons c a ih =>
    cases b with
    | nil =>
      simp at h
      exact absurd h.1 (fun e => ha (by rw [e]; simp))
    | cons d b =>
      simp only [List.cons_append, List.cons.injEq] at h
      obtain ⟨e1, e2⟩ := ih (fun hm => ha (List.mem_cons_of_mem _ hm)) (fun hm => hb (List.mem_cons_of_mem _ hm)) h.2
      exact ⟨by rw [h.1, e1], e2⟩
theorem keyOf_inj {l m : List Int} (h : keyOf l = keyOf m) : l = m := by
  induction l generalizing m with
  | nil =>
    cases m with
    | nil => rfl
    | cons y m => simp [keyOf] at h
  | cons x l ih =>
    cases m with
    | nil => simp [keyOf] at h
    | cons y m =>
      have h' : Lib.itoa x ++ 44 :: keyOf l = Lib.itoa y ++ 44 :: keyOf m := by simpa [keyOf] using h
      obtain ⟨e1, e2⟩ := split_at_comma (itoa_comma x) (itoa_comma y) h'
      rw [itoa_inj e1, ih e2]

/-! ### Separated -/
theorem knownF_none {rows : List (List Int × Bool)} {k : Nat} {s : List Int} (h : ∀ j, j < k → sg rows j ≠ s) : knownF rows k (keyOf s) = none := by
  induction k with
  | zero => rfl
  | succ k ih =>
    unfold knownF
    rw [if_neg (fun e => h k (by omega) (keyOf_inj e).symm)]
    exact ih fun j hj => h j (by omega)
theorem knownF_some {rows : List (List Int × Bool)} {k : Nat} {s : List Int} {v : Bool} (h : knownF rows k (keyOf s) = some v) : ∃ j, j < k ∧ sg rows j = s ∧ tr rows j = v := by
  induction k with
  | zero => cases h
  | succ k ih =>
    unfold knownF at h
    split at h
    · rename_i e
      exact ⟨k, by omega, (keyOf_inj e).symm, by injection h⟩
    · obtain ⟨j, hj, h1⟩ := ih h
      exact ⟨j, by omega, h1⟩
theorem knownF_isSome {rows : List (List Int × Bool)} {k : Nat} {s : List Int} {j : Nat} (hj : j < k) (hs : sg rows j = s) : ∃ v, knownF rows k (keyOf s) = some v := by
  induction k with
  | zero => omega
  | succ k ih =>
    unfold knownF
    split
    · exact ⟨_, rfl⟩
    · rename_i e
      by_cases hjk : j = k
      · subst hjk; exact absurd (by rw [hs]) e
      · exact ih (by omega)
/-- no two rows of equal signs differ -/
def SepP (rows : List (List Int × Bool)) : Prop := ∀ i j, i < rows.length → j < rows.length → sg rows i = sg rows j → tr rows i = tr rows j
theorem sepB_iff {rows : List (List Int × Bool)} : sepB rows = true ↔ SepP rows := by
  unfold sepB
  rw [allTo_iff]
  constructor
  · intro h i j hi hj hs
    have aux : ∀ a b, a < rows.length → b < a → sg rows a = sg rows b → tr rows a = tr rows b := fun a b ha hb hab => by
      have := allTo_iff.1 (h a ha) b hb
      unfold clash at this
      simp [hab] at this
      exact this
    rcases Nat.lt_trichotomy i j with h1 | h1 | h1
    · exact (aux j i hj h1 hs.symm).symm
    · rw [h1]
    · exact aux i j hi h1 hs
  · intro h i hi
    unfold sepTo
    rw [allTo_iff]
    intro k hk
    unfold clash
    by_cases hs : sg rows i = sg rows k
    · simp [hs, h i k hi (by omega) hs]
    · simp [hs]
theorem codeSep_iff {rows : List (List Int × Bool)} : codeSep rows = true ↔ SepP rows := by
  unfold codeSep
  rw [allTo_iff]
  constructor
  · intro h
    have aux : ∀ n, n ≤ rows.length → ∀ i j, i < n → j < n → sg rows i = sg rows j → tr rows i = tr rows j := by
      intro n
      induction n with
      | zero => intro _ i j hi; omega
      | succ n ih =>
        intro hn i j hi hj hs
        have key : ∀ a, a < n → sg rows a = sg rows n → tr rows a = tr rows n := fun a ha hs' => by
          have hk := h n (by omega)
          unfold sepAt at hk
          obtain ⟨v, hv⟩ := knownF_isSome (k := n) ha hs'
          rw [hv] at hk
          obtain ⟨b, hb, hb1, hb2⟩ := knownF_some hv
          have e1 : v = tr rows n := by simpa using hk
          rw [← e1, ← hb2]
          exact ih (by omega) a b ha hb (hs'.trans hb1.symm)
        by_cases h1 : i = n
        · by_cases h2 : j = n
          · rw [h1, h2]
          · subst h1; exact (key j (by omega) hs.symm).symm
        · by_cases h2 : j = n
          · subst h2; exact key i (by omega) hs
          · exact ih (by omega) i j (by omega) (by omega) hs
    intro i j hi hj hs
    exact aux _ (Nat.le_refl _) i j hi hj hs
  · intro h k hk
    unfold sepAt
    cases hv : knownF rows k (keyOf (sg rows k)) with
    | none => simp
    | some v =>
      obtain ⟨b, hb, hb1, hb2⟩ := knownF_some hv
      have := h b k (by omega) hk hb1
      simp [← hb2, this]
theorem codeSep_eq (rows : List (List Int × Bool)) : codeSep rows = sepB rows := by
  rw [Bool.eq_iff_iff, codeSep_iff, sepB_iff]

/-! ### split -/
theorem pickTo_sub {b : Bool} {rows : List (List Int × Bool)} {k : Nat} {l : List Int} (h : l ∈ pickTo b rows k) : ∃ j, j < k ∧ sg rows j = l ∧ tr rows j = b := by
  induction k with
  | zero => cases h
  | succ k ih =>
    unfold pickTo at h
    have up : (l ∈ pickTo b rows k) → ∃ j, j < k + 1 ∧ sg rows j = l ∧ tr rows j = b := fun h => by
      obtain ⟨j, hj, h1⟩ := ih h
      exact ⟨j, by omega, h1⟩
    split at h
    · exact up h
    · split at h
      · rename_i hb
        rcases List.mem_append.1 h with h | h
        · exact up h
        · simp at h
          exact ⟨k, by omega, h.symm, by simpa using hb⟩
      · exact up h
theorem seenF_some {rows : List (List Int × Bool)} {k : Nat} {s : List Int} (h : (seenF rows k (keyOf s)).getD false = true) : ∃ j, j < k ∧ sg rows j = s := by
  induction k with
  | zero => cases h
  | succ k ih =>
    unfold seenF at h
    split at h
    · obtain ⟨j, hj, h1⟩ := ih h
      exact ⟨j, by omega, h1⟩
    · by_cases e : keyOf s = keyOf (sg rows k)
      · exact ⟨k, by omega, (keyOf_inj e).symm⟩
      · simp only [if_neg e] at h
        obtain ⟨j, hj, h1⟩ := ih h
        exact ⟨j, by omega, h1⟩
theorem pickTo_all {rows : List (List Int × Bool)} (hs : SepP rows) {k : Nat} (hk : k ≤ rows.length) {j : Nat} (hj : j < k) : sg rows j ∈ pickTo (tr rows j) rows k := by
  induction k generalizing j with
  | zero => omega
  | succ k ih =>
    have mono : ∀ b l, l ∈ pickTo b rows k → l ∈ pickTo b rows (k + 1) := fun b l hl => by
      unfold pickTo
      split
      · exact hl
      · split
        · exact List.mem_append_left _ hl
        · exact hl
    by_cases hjk : j = k
    · subst hjk
      cases hf : (seenF rows j (keyOf (sg rows j))).getD false with
      | true =>
        obtain ⟨i, hi, h1⟩ := seenF_some hf
        have := ih (by omega) hi
        rw [h1, hs i j (by omega) (by omega) h1] at this
        exact mono _ _ this
      | false =>
        unfold pickTo
        rw [hf]
        simp
    · exact mono _ _ (ih (by omega) (by omega))
theorem mem_getD {ls : List (List Int)} {k : Nat} (h : k < ls.length) : ls.getD k [] ∈ ls := by
  rw [List.getD_eq_getElem?_getD, List.getElem?_eq_getElem h]; exact List.getElem_mem _
theorem getD_of_mem {ls : List (List Int)} {l : List Int} (h : l ∈ ls) : ∃ k, k < ls.length ∧ ls.getD k [] = l := by
  obtain ⟨k, hk, e⟩ := List.getElem_of_mem h
  exact ⟨k, hk, by rw [List.getD_eq_getElem?_getD, List.getElem?_eq_getElem hk]; exact e⟩

/-- the rows are valid for N -/
def ValidP (N : Nat) (rows : List (List Int × Bool)) : Prop := ∀ k, k < rows.length → (sg rows k).length = N ∧ ∀ x ∈ sg rows k, -1 ≤ x ∧ x ≤ 1
theorem sgns_iff {l : List Int} : allTo (sgnB l) l.length = true ↔ ∀ x ∈ l, -1 ≤ x ∧ x ≤ 1 := by
  rw [allTo_iff]
  constructor
  · intro h x hx
    obtain ⟨i, hi, e⟩ := List.getElem_of_mem hx
    have := h i hi
    unfold sgnB at this
    rw [List.getD_eq_getElem?_getD, List.getElem?_eq_getElem hi] at this
    simp only [Option.getD_some, e, Bool.and_eq_true, decide_eq_true_eq] at this
    exact this
  · intro h i hi
    have := h (l.getD i 0) (getD_mem hi)
    unfold sgnB
    simp only [Bool.and_eq_true, decide_eq_true_eq]
    exact this
theorem validB_iff {N : Nat} {rows : List (List Int × Bool)} : validB (N : Int) rows = true ↔ ValidP N rows := by
  unfold validB
  rw [allTo_iff]
  constructor
  · intro h k hk
    have := h k hk
    unfold rowOk at this
    rw [Bool.and_eq_true, sgns_iff, decide_eq_true_eq] at this
    exact ⟨by omega, this.2⟩
  · intro h k hk
    have := h k hk
    unfold rowOk
    rw [Bool.and_eq_true, sgns_iff, decide_eq_true_eq]
    exact ⟨by omega, this.2⟩
theorem pick_signs {b : Bool} {N : Nat} {rows : List (List Int × Bool)} (h : ValidP N rows) {n : Nat} (hn : n ≤ rows.length) : Signs N (pickTo b rows n) := fun k hk => by
  obtain ⟨j, hj, h1, _⟩ := pickTo_sub (mem_getD hk)
  have := h j (by omega)
  rw [h1] at this
  exact this
theorem sgn_at {l : List Int} (h : ∀ x ∈ l, -1 ≤ x ∧ x ≤ 1) {i : Nat} (hi : i < l.length) : Sgn (cAt l i) := h _ (getD_mem hi)
end Go.Proofs.YtkkliemgidhgmaaGreatDoor

/- The plain laws of 'needed' and of 'Cover' as a whole: the terms permit each true row and no false one, none can be widened, none can be omitted. -/
namespace Go.Proofs.YtkkliemgidhgmaaGreatDoor
open Go.RowKit

/-! ### needed -/
def cntP (ys : List (List Int)) (i : Nat) (l : List (List Int)) : Nat := (l.filter fun t => permY t ys i).length
theorem cntP_append (ys : List (List Int)) (i : Nat) (l m : List (List Int)) : cntP ys i (l ++ m) = cntP ys i l + cntP ys i m := by simp [cntP]
theorem cntP_one (ys : List (List Int)) (i : Nat) (t : List Int) : cntP ys i [t] = if permY t ys i then 1 else 0 := by
  unfold cntP
  cases h : permY t ys i <;> simp [h]
theorem take_snoc_getD (ts : List (List Int)) (k : Nat) (h : k < ts.length) : ts.take (k + 1) = ts.take k ++ [ts.getD k []] := by
  rw [List.take_succ_eq_append_getElem h, List.getD_eq_getElem?_getD, List.getElem?_eq_getElem h]; rfl
theorem drop_cons_getD (ts : List (List Int)) (k : Nat) (h : k < ts.length) : ts.drop k = ts.getD k [] :: ts.drop (k + 1) := by
  rw [List.drop_eq_getElem_cons h, List.getD_eq_getElem?_getD, List.getElem?_eq_getElem h]; rfl
theorem cntTo_at (ts ys : List (List Int)) (k i : Nat) (hk : k ≤ ts.length) (hi : i < ys.length) : cAt (cntTo ts ys k) i = cntP ys i (ts.take k) := by
  induction k with
  | zero => simp [cntTo, cAt_replicate, cntP]
  | succ k ih =>
    rw [take_snoc_getD ts k (by omega), cntP_append, cntP_one]
    simp only [cntTo]
    rw [incTo_at _ _ _ _ _ (by rw [cntTo_len]; omega), ih (by omega)]
    by_cases hp : permY (ts.getD k []) ys i = true
    · rw [if_pos ⟨hi, hp⟩, if_pos hp]; omega
    · rw [if_neg (fun h => hp h.2), if_neg hp]; omega
theorem decTo_at (is : List Nat) (cnt : List Int) (hnd : is.Nodup) (hb : ∀ i ∈ is, i < cnt.length) (q : Nat) (hq : q ≤ is.length) (j : Nat) : cAt (decTo is cnt q) j = cAt cnt j - if j ∈ is.take q then 1 else 0 := by
  induction q with
  | zero => simp [decTo]
  | succ q ih =>
    have ih := ih (by omega)
    have hg : is.getD q 0 = is[q] := by rw [List.getD_eq_getElem?_getD, List.getElem?_eq_getElem (by omega)]; rfl
    have hm : is.getD q 0 ∈ is := by rw [hg]; exact List.getElem_mem _
    have ht : is.take (q + 1) = is.take q ++ [is.getD q 0] := by rw [List.take_succ_eq_append_getElem (by omega), hg]
    have hnt : is.getD q 0 ∉ is.take q := by
      intro hin
      have h1 : (is.take (q + 1)).Nodup := hnd.sublist (List.take_sublist _ _)
      rw [ht, List.nodup_append] at h1
      exact h1.2.2 _ hin _ (by simp) rfl
    unfold decTo
    rw [cAt_set _ _ _ _ (by rw [decTo_len]; exact hb _ hm), ht]
    by_cases hj : is.getD q 0 = j
    · subst hj
      rw [if_pos rfl, ih, if_neg hnt, if_pos (by simp)]; omega
    · rw [if_neg hj, ih]
      congr 1
      have : (j ∈ is.take q ++ [is.getD q 0]) ↔ j ∈ is.take q := by
        rw [List.mem_append, List.mem_singleton]
        exact ⟨fun h => h.resolve_right (fun e => hj e.symm), .inl⟩
      simp only [this]
theorem rowsL_mem {t : List Int} {ys : List (List Int)} {i : Nat} : i ∈ rowsL t ys ↔ i < ys.length ∧ permY t ys i = true := by
  unfold rowsL rowsTo
  rw [List.mem_filter, List.mem_range]
theorem rowsL_nodup (t : List Int) (ys : List (List Int)) : (rowsL t ys).Nodup := List.Nodup.sublist List.filter_sublist List.nodup_range
theorem hit_iff {t : List Int} {ys : List (List Int)} {cnt : List Int} : anyTo (hitAt (rowsL t ys) cnt) (rowsL t ys).length = true ↔ ∃ i, i < ys.length ∧ permY t ys i = true ∧ cAt cnt i = 1 := by
  rw [anyTo_iff]
  constructor
  · rintro ⟨k, hk, h⟩
    have hm : (rowsL t ys).getD k 0 ∈ rowsL t ys := by rw [List.getD_eq_getElem?_getD, List.getElem?_eq_getElem hk]; exact List.getElem_mem _
    obtain ⟨h1, h2⟩ := rowsL_mem.1 hm
    exact ⟨_, h1, h2, by simpa [hitAt, oneAt] using h⟩
  · rintro ⟨i, h1, h2, h3⟩
    obtain ⟨k, hk, e⟩ := List.getElem_of_mem (rowsL_mem.2 ⟨h1, h2⟩)
    refine ⟨k, hk, ?_⟩
    unfold hitAt oneAt
    rw [List.getD_eq_getElem?_getD, List.getElem?_eq_getElem hk]
    simp [e, h3]

/-- what stands at every step of 'needed' -/
structure NInv (ts ys : List (List Int)) (j : Nat) : Prop where
  cnt : ∀ i, i < ys.length → cAt (stTo ts ys j).2 i = cntP ys i ((stTo ts ys j).1 ++ ts.drop j)
  pos : ∀ i, i < ys.length → 1 ≤ cAt (stTo ts ys j).2 i
  alone : ∀ t ∈ (stTo ts ys j).1, ∃ i, i < ys.length ∧ permY t ys i = true ∧ cAt (stTo ts ys j).2 i = 1
  sub : ∀ t ∈ (stTo ts ys j).1, t ∈ ts
theorem stTo_inv {ts ys : List (List Int)} (h : ∀ i, i < ys.length → ∃ t ∈ ts, permY t ys i = true) (j : Nat) (hj : j ≤ ts.length) : NInv ts ys j := by
  induction j with
  | zero =>
    have e : ∀ i, i < ys.length → cAt (stTo ts ys 0).2 i = cntP ys i ts := fun i hi => by
      simp only [stTo]
      rw [cntTo_at _ _ _ _ (Nat.le_refl _) hi, List.take_length]
    refine ⟨fun i hi => by rw [e i hi]; simp [stTo], fun i hi => ?_, fun t ht => by simp [stTo] at ht, fun t ht => by simp [stTo] at ht⟩
    rw [e i hi]
    obtain ⟨t, ht, hp⟩ := h i hi
    have : t ∈ ts.filter fun t => permY t ys i := List.mem_filter.2 ⟨ht, hp⟩
    have := List.length_pos_of_mem this
    unfold cntP
    omega
  | succ j ih =>
    have ih := ih (by omega)
    have hd := drop_cons_getD ts j (by omega)
    have hmem := mem_getD (ls := ts) (k := j) (by omega)
    cases hh : anyTo (hitAt (rowsL (ts.getD j []) ys) (stTo ts ys j).2) (rowsL (ts.getD j []) ys).length with
    | true =>
      have e : stTo ts ys (j + 1) = ((stTo ts ys j).1 ++ [ts.getD j []], (stTo ts ys j).2) := by rw [stTo, hh]; rfl
      obtain ⟨i0, h1, h2, h3⟩ := hit_iff.1 hh
      refine ⟨fun i hi => ?_, fun i hi => by rw [e]; exact ih.pos i hi, fun t ht => ?_, fun t ht => ?_⟩
      · rw [e]
        have := ih.cnt i hi
        rw [hd] at this
        simpa using this
      · rw [e] at ht ⊢
        rcases List.mem_append.1 ht with ht | ht
        · exact ih.alone t ht
        · rw [List.mem_singleton] at ht
          subst ht
          exact ⟨i0, h1, h2, h3⟩
      · rw [e] at ht
        rcases List.mem_append.1 ht with ht | ht
        · exact ih.sub t ht
        · rw [List.mem_singleton] at ht
          subst ht
          exact hmem
    | false =>
      have e : stTo ts ys (j + 1) = ((stTo ts ys j).1, decTo (rowsL (ts.getD j []) ys) (stTo ts ys j).2 (rowsL (ts.getD j []) ys).length) := by rw [stTo, hh]; rfl
      have hn : ∀ i, i < ys.length → permY (ts.getD j []) ys i = true → cAt (stTo ts ys j).2 i ≠ 1 := fun i hi hp h1 => by
        have := hit_iff.2 ⟨i, hi, hp, h1⟩
        rw [hh] at this
        cases this
      have hc : ∀ i, i < ys.length → cAt (stTo ts ys (j + 1)).2 i = cAt (stTo ts ys j).2 i - if permY (ts.getD j []) ys i then 1 else 0 := fun i hi => by
        rw [e]
        simp only
        rw [decTo_at _ _ (rowsL_nodup _ _) (fun i hi => by rw [stTo_len]; exact (rowsL_mem.1 hi).1) _ (Nat.le_refl _), List.take_length]
        congr 1
        by_cases hp : permY (ts.getD j []) ys i = true
        · rw [if_pos (rowsL_mem.2 ⟨hi, hp⟩), if_pos hp]
        · rw [if_neg (fun hm => hp (rowsL_mem.1 hm).2), if_neg hp]
      have e1 : (stTo ts ys (j + 1)).1 = (stTo ts ys j).1 := by rw [e]
      refine ⟨fun i hi => ?_, fun i hi => ?_, fun t ht => ?_, fun t ht => by rw [e1] at ht; exact ih.sub t ht⟩
      · rw [hc i hi, e1]
        have := ih.cnt i hi
        rw [hd, ← List.singleton_append, cntP_append, cntP_append, cntP_one] at this
        rw [cntP_append]
        by_cases hp : permY (ts.getD j []) ys i = true
        · rw [if_pos hp] at this ⊢; omega
        · rw [if_neg hp] at this ⊢; omega
      · rw [hc i hi]
        have h1 := ih.pos i hi
        by_cases hp : permY (ts.getD j []) ys i = true
        · rw [if_pos hp]; have := hn i hi hp; omega
        · rw [if_neg hp]; omega
      · rw [e1] at ht
        obtain ⟨i, h1, h2, h3⟩ := ih.alone t ht
        refine ⟨i, h1, h2, ?_⟩
        rw [hc i h1, h3]
        by_cases hp : permY (ts.getD j []) ys i = true
        · exact absurd h3 (hn i h1 hp)
        · rw [if_neg hp]; rfl
theorem one_only {p : List Int → Bool} : ∀ {l : List (List Int)}, (l.filter p).length = 1 → ∀ {a b : Nat}, a < l.length → b < l.length → p (l.getD a []) = true → p (l.getD b []) = true → a = b := by
  intro l
  induction l with
  | nil => intro _ a b ha; simp at ha
  | cons x l ih =>
    intro h a b ha hb pa pb
    cases hx : p x with
    | true =>
      rw [List.filter_cons_of_pos hx] at h
      have h0 : (l.filter p).length = 0 := by simpa using h
      have hz : ∀ k, k < l.length → p (l.getD k []) = false := fun k hk => by
        rw [← Bool.not_eq_true]
        intro hp
        have := List.length_pos_of_mem (List.mem_filter.2 ⟨mem_getD hk, hp⟩)
        omega
      have za : a = 0 := by
        rcases Nat.eq_zero_or_pos a with h | h
        · exact h
        · obtain ⟨a', rfl⟩ : ∃ a', a = a' + 1 := ⟨a - 1, by omega⟩
          have := hz a' (by simp at ha; omega)
          rw [show (x :: l).getD (a' + 1) [] = l.getD a' [] from rfl, this] at pa
          cases pa
      have zb : b = 0 := by
        rcases Nat.eq_zero_or_pos b with h | h
        · exact h
        · obtain ⟨b', rfl⟩ : ∃ b', b = b' + 1 := ⟨b - 1, by omega⟩
          have := hz b' (by simp at hb; omega)
          rw [show (x :: l).getD (b' + 1) [] = l.getD b' [] from rfl, this] at pb
          cases pb
      rw [za, zb]
    | false =>
      rw [List.filter_cons_of_neg (by rw [hx]; simp)] at h
      have na : a ≠ 0 := by rintro rfl; rw [show (x :: l).getD 0 [] = x from rfl, hx] at pa; cases pa
      have nb : b ≠ 0 := by rintro rfl; rw [show (x :: l).getD 0 [] = x from rfl, hx] at pb; cases pb
      obtain ⟨a', rfl⟩ : ∃ a', a = a' + 1 := ⟨a - 1, by omega⟩
      obtain ⟨b', rfl⟩ : ∃ b', b = b' + 1 := ⟨b - 1, by omega⟩
      have := ih h (a := a') (b := b') (by simp at ha; omega) (by simp at hb; omega) pa pb
      omega

/-! ### the terms that are laid -/
theorem bAt_set (l : List Bool) (i j : Nat) (x : Bool) (hi : i < l.length) : bAt (l.set i x) j = if i = j then x else bAt l j := by
  unfold bAt
  by_cases h : i = j
  · subst h; simp [hi]
  · simp [h]
theorem covTo_at (t : List Int) (yes : List (List Int)) (i : Nat) (cov : List Bool) (q : Nat) (hq : i + q ≤ cov.length) (j : Nat) (h : bAt (covTo t yes i cov q) j = true) : bAt cov j = true ∨ permY t yes j = true := by
  induction q with
  | zero => exact .inl h
  | succ q ih =>
    unfold covTo at h
    rw [bAt_set _ _ _ _ (by rw [covTo_len]; omega)] at h
    by_cases e : i + q = j
    · rw [if_pos e] at h
      rcases Bool.or_eq_true_iff.1 h with h | h
      · rw [e] at h; exact ih (by omega) h
      · rw [e] at h; exact .inr h
    · rw [if_neg e] at h; exact ih (by omega) h
theorem cvTo_inv {N : Nat} {yes no : List (List Int)} (hw : ∀ k, k < yes.length → WTerm N no (widenT (yes.getD k []) no) ∧ permY (widenT (yes.getD k []) no) yes k = true) (i : Nat) (hi : i ≤ yes.length) :
    (∀ t ∈ (cvTo yes no i).1, WTerm N no t) ∧ (∀ k, bAt (cvTo yes no i).2 k = true → ∃ t ∈ (cvTo yes no i).1, permY t yes k = true) ∧ ∀ k, k < i → ∃ t ∈ (cvTo yes no i).1, permY t yes k = true := by
  induction i with
  | zero =>
    refine ⟨fun t ht => by simp [cvTo] at ht, fun k hk => ?_, fun k hk => by omega⟩
    have : bAt (List.replicate yes.length false) k = false := by
      unfold bAt
      rw [List.getD_eq_getElem?_getD, List.getElem?_replicate]
      split <;> rfl
    simp only [cvTo] at hk
    rw [this] at hk
    cases hk
  | succ i ih =>
    obtain ⟨h1, h2, h3⟩ := ih (by omega)
    cases hb : bAt (cvTo yes no i).2 i with
    | true =>
      have e : cvTo yes no (i + 1) = cvTo yes no i := by rw [cvTo, hb]; rfl
      rw [e]
      refine ⟨h1, h2, fun k hk => ?_⟩
      by_cases hki : k = i
      · subst hki; exact h2 k hb
      · exact h3 k (by omega)
    | false =>
      have e : cvTo yes no (i + 1) = ((cvTo yes no i).1 ++ [widenT (yes.getD i []) no], covTo (widenT (yes.getD i []) no) yes i (cvTo yes no i).2 (yes.length - i)) := by rw [cvTo, hb]; rfl
      rw [e]
      obtain ⟨w1, w2⟩ := hw i (by omega)
      refine ⟨fun t ht => ?_, fun k hk => ?_, fun k hk => ?_⟩
      · rcases List.mem_append.1 ht with ht | ht
        · exact h1 t ht
        · rw [List.mem_singleton] at ht; rw [ht]; exact w1
      · rcases covTo_at _ _ _ _ _ (by rw [(cvTo_len yes no i).1]; omega) _ hk with hk | hk
        · obtain ⟨t, ht, hp⟩ := h2 k hk
          exact ⟨t, List.mem_append_left _ ht, hp⟩
        · exact ⟨_, by simp, hk⟩
      · by_cases hki : k = i
        · subst hki; exact ⟨_, by simp, w2⟩
        · obtain ⟨t, ht, hp⟩ := h3 k (by omega)
          exact ⟨t, List.mem_append_left _ ht, hp⟩

/-- what 'Cover' promises, in plain words -/
structure CoverOk (N : Nat) (rows : List (List Int × Bool)) (ts : List (List Int)) : Prop where
  count : ts.length ≤ rows.length
  term : ∀ t ∈ ts, t.length = N ∧ ∀ i, i < N → 1 ≤ cAt t i ∧ cAt t i ≤ 7
  yes : ∀ k, k < rows.length → tr rows k = true → ∃ t ∈ ts, permTo t (sg rows k) N = true
  no : ∀ k, k < rows.length → tr rows k = false → ∀ t ∈ ts, permTo t (sg rows k) N = false
  prime : ∀ t ∈ ts, ∀ i, i < N → ∀ s, Sgn s → meet (cAt t i) s = false → ∃ k, k < rows.length ∧ tr rows k = false ∧ permTo (t.set i (bits .or .i64 (cAt t i) (bitOf s))) (sg rows k) N = true
  need : ∀ a, a < ts.length → ∃ k, k < rows.length ∧ tr rows k = true ∧ permTo (ts.getD a []) (sg rows k) N = true ∧ ∀ b, b < ts.length → b ≠ a → permTo (ts.getD b []) (sg rows k) N = false

theorem stTo_len1 (ts ys : List (List Int)) (j : Nat) : (stTo ts ys j).1.length ≤ j := stTo_kept ts ys j
theorem cover_ok {N : Nat} {rows : List (List Int × Bool)} (hv : ValidP N rows) (hs : SepP rows) : CoverOk N rows (coverL rows) := by
  have hy : Signs N (pickTo true rows rows.length) := pick_signs hv (Nat.le_refl _)
  have hn : Signs N (pickTo false rows rows.length) := pick_signs hv (Nat.le_refl _)
  have hyl := pickTo_len true rows rows.length
  have hdis : ∀ y ∈ pickTo true rows rows.length, y ∉ pickTo false rows rows.length := fun y h1 h2 => by
    obtain ⟨i, hi, e1, e2⟩ := pickTo_sub h1
    obtain ⟨j, hj, e3, e4⟩ := pickTo_sub h2
    have := hs i j hi hj (e1.trans e3.symm)
    rw [e2, e4] at this
    cases this
  have hall : ∀ k, k < rows.length → sg rows k ∈ pickTo (tr rows k) rows rows.length := fun k hk => pickTo_all hs (Nat.le_refl _) hk
  have hsub : ∀ b l, l ∈ pickTo b rows rows.length → ∃ j, j < rows.length ∧ sg rows j = l ∧ tr rows j = b := fun b l h => pickTo_sub h
  unfold coverL termsL
  generalize hye : pickTo true rows rows.length = yes at *
  generalize hno : pickTo false rows rows.length = no at *
  have hpy : ∀ t k, k < yes.length → permY t yes k = permTo t (yes.getD k []) N := fun t k hk => by unfold permY; rw [(hy k hk).1]
  have hw : ∀ k, k < yes.length → WTerm N no (widenT (yes.getD k []) no) ∧ permY (widenT (yes.getD k []) no) yes k = true := fun k hk => by
    have h1 := hy k hk
    have h2 := widenT_ok (y := yes.getD k []) (no := no) (fun j hj => sgn_at h1.2 hj) (fun q hq j hj => sgn_at (hn q hq).2 (by rw [(hn q hq).1, ← h1.1]; exact hj)) (fun q hq => (hn q hq).1.trans h1.1.symm) (hdis _ (mem_getD hk))
    rw [h1.1] at h2
    exact ⟨h2.1, by rw [hpy _ _ hk]; exact h2.2⟩
  obtain ⟨c1, c2, c3⟩ := cvTo_inv hw yes.length (Nat.le_refl _)
  have hcl := (cvTo_len yes no yes.length).2
  generalize (cvTo yes no yes.length).1 = ts at *
  have hN := stTo_inv (ts := ts) (ys := yes) c3 ts.length (Nat.le_refl _)
  have hkl := stTo_kept ts yes ts.length
  have hcnt : ∀ i, i < yes.length → cAt (stTo ts yes ts.length).2 i = cntP yes i (stTo ts yes ts.length).1 := fun i hi => by have := hN.cnt i hi; simpa using this
  obtain ⟨_, hpos, halone, hsb⟩ := hN
  generalize (stTo ts yes ts.length).2 = cnt at *
  generalize (stTo ts yes ts.length).1 = ks at *
  have hidx : ∀ k, k < rows.length → tr rows k = true → ∃ q, q < yes.length ∧ yes.getD q [] = sg rows k := fun k hk ht => by
    have := hall k hk
    rw [ht, hye] at this
    exact getD_of_mem this
  refine ⟨by omega, fun t ht => ⟨(c1 t (hsb t ht)).len, (c1 t (hsb t ht)).bd⟩, fun k hk ht => ?_, fun k hk ht t htm => ?_, fun t ht i hi s hsg hm => ?_, fun a ha => ?_⟩
  · obtain ⟨q, hq, e⟩ := hidx k hk ht
    have h1 := hpos q hq
    rw [hcnt q hq] at h1
    unfold cntP at h1
    obtain ⟨t, htm⟩ := List.exists_mem_of_length_pos (l := ks.filter fun t => permY t yes q) (by omega)
    obtain ⟨h2, h3⟩ := List.mem_filter.1 htm
    exact ⟨t, h2, by rw [hpy _ _ hq, e] at h3; exact h3⟩
  · have hmm := hall k hk
    rw [ht, hno] at hmm
    obtain ⟨q, hq, e⟩ := getD_of_mem hmm
    have := (c1 t (hsb t htm)).refuse q hq
    rw [e] at this
    exact this
  · obtain ⟨q, hq, hp⟩ := (c1 t (hsb t ht)).prime i hi s hsg hm
    obtain ⟨j, hj, e1, e2⟩ := hsub false _ (by rw [hno]; exact mem_getD hq)
    exact ⟨j, hj, e2, by rw [e1]; exact hp⟩
  · obtain ⟨q, hq, hp, h1⟩ := halone _ (mem_getD ha)
    obtain ⟨j, hj, e1, e2⟩ := hsub true _ (by rw [hye]; exact mem_getD hq)
    refine ⟨j, hj, e2, by rw [e1, ← hpy _ _ hq]; exact hp, fun b hb hne => ?_⟩
    rw [← Bool.not_eq_true]
    intro hpb
    rw [e1, ← hpy _ _ hq] at hpb
    rw [hcnt q hq] at h1
    have h1' : (ks.filter fun t => permY t yes q).length = 1 := by unfold cntP at h1; omega
    exact hne (one_only h1' hb ha hpb hp)
end Go.Proofs.YtkkliemgidhgmaaGreatDoor

/- From the plain law of 'Cover' to what the reference asks; 'Cover' with its law; the fixed example of 'awake'. -/
namespace Go.Proofs.YtkkliemgidhgmaaGreatDoor
open Go.RowKit

section
variable {N : Nat} {rows : List (List Int × Bool)} {ts : List (List Int)}
theorem permT_eq {t s : List Int} (ht : t.length = N) (hs : s.length = N) : permT t s = permTo t s N := by
  unfold permT; rw [ht, hs]; simp
theorem sets_of (h : CoverOk N rows ts) : setsB (N : Int) ts = true := by
  unfold setsB
  rw [allTo_iff]
  intro k hk
  obtain ⟨h1, h2⟩ := h.term _ (mem_getD hk)
  unfold termOk
  generalize ts.getD k [] = t at *
  rw [Bool.and_eq_true, decide_eq_true_eq]
  refine ⟨by omega, ?_⟩
  rw [allTo_iff]
  intro i hi
  have := h2 i (by omega)
  unfold setB
  rw [Bool.and_eq_true, decide_eq_true_eq, decide_eq_true_eq]
  exact this
theorem covers_of (hv : ValidP N rows) (h : CoverOk N rows ts) : covB ts rows = true := by
  unfold covB
  rw [allTo_iff]
  intro k hk
  unfold covRow
  cases ht : tr rows k with
  | true =>
    obtain ⟨t, htm, hp⟩ := h.yes k hk ht
    obtain ⟨q, hq, e⟩ := getD_of_mem htm
    have : anyTo (covAt ts rows k) ts.length = true := anyTo_true (k := q) (by unfold covAt; rw [e, permT_eq (h.term t htm).1 (hv k hk).1]; exact hp) hq
    rw [this]; rfl
  | false =>
    have : anyTo (covAt ts rows k) ts.length = false := by
      rw [← Bool.not_eq_true, anyTo_iff]
      rintro ⟨q, hq, hp⟩
      have hm := mem_getD hq
      unfold covAt at hp
      rw [permT_eq (h.term _ hm).1 (hv k hk).1, h.no k hk ht _ hm] at hp
      cases hp
    rw [this]; rfl
theorem okBit_of (hv : ValidP N rows) (h : CoverOk N rows ts) {t : List Int} (ht : t ∈ ts) {i : Nat} (hi : i < N) {s : Int} (hs : Sgn s) : okBit t i rows (bitOf s) = true := by
  unfold okBit
  cases hm : meet (cAt t i) s with
  | true =>
    have : (!(bits .and .i64 (t.getD i 0) (bitOf s) == 0)) = true := hm
    rw [this]; rfl
  | false =>
    obtain ⟨k, hk, h1, h2⟩ := h.prime t ht i hi s hs hm
    have hf : falseB (t.set i (bits .or .i64 (t.getD i 0) (bitOf s))) rows = true := by
      refine anyTo_true (k := k) ?_ hk
      unfold falseAt
      rw [h1, permT_eq (by simpa using (h.term t ht).1) (hv k hk).1]
      exact h2
    rw [hf]; simp
theorem prime_of (hv : ValidP N rows) (h : CoverOk N rows ts) : primeB ts rows = true := by
  unfold primeB
  rw [allTo_iff]
  intro k hk
  have hm := mem_getD hk
  unfold primeT
  rw [allTo_iff]
  intro i hi
  rw [(h.term _ hm).1] at hi
  unfold primeAt
  have h1 := okBit_of hv h hm hi (s := -1) ⟨by omega, by omega⟩
  have h2 := okBit_of hv h hm hi (s := 0) ⟨by omega, by omega⟩
  have h3 := okBit_of hv h hm hi (s := 1) ⟨by omega, by omega⟩
  rw [show bitOf (-1) = 1 from rfl] at h1
  rw [show bitOf 0 = 2 from rfl] at h2
  rw [show bitOf 1 = 4 from rfl] at h3
  rw [h1, h2, h3]; rfl
theorem need_of (hv : ValidP N rows) (h : CoverOk N rows ts) : needB ts rows = true := by
  unfold needB
  rw [allTo_iff]
  intro a ha
  obtain ⟨k, hk, h1, h2, h3⟩ := h.need a ha
  unfold needT
  refine anyTo_true (k := k) ?_ hk
  unfold aloneAt baseAt
  rw [h1, permT_eq (h.term _ (mem_getD ha)).1 (hv k hk).1, h2]
  have : allTo (otherAt ts rows a k) ts.length = true := by
    rw [allTo_iff]
    intro b hb
    unfold otherAt
    by_cases e : b = a
    · simp [e]
    · rw [permT_eq (h.term _ (mem_getD hb)).1 (hv k hk).1, h3 b hb e]; simp
  rw [this]; rfl
end

/-- how 'Cover' ends, with its law -/
def CoverGood (x : Int) (rows : List (List Int × Bool)) (w : World) (e : Ending) (w' : World) : Prop :=
  ∃ A1 c1 ts, e = .returned (.tuple #[.slice A1 (List.length ts) c1, .int .i64 (errOf x rows)]) ∧ ListsAt w' w'.heap.size A1 ts ∧ (errOf x rows ≠ 0 → ts = []) ∧
    (errOf x rows = 0 → ∃ N : Nat, x = (N : Int) ∧ ValidP N rows ∧ CoverOk N rows ts) ∧ Below w.heap.size w w'
theorem coverGood_of {x : Int} {rows : List (List Int × Bool)} {w : World} {e : Ending} {w' : World} (h : CoverPost x rows w e w') : CoverGood x rows w e w' := by
  obtain ⟨h | h | h, hb⟩ := h
  · obtain ⟨h1, rfl⟩ := h
    have e1 : errOf x rows = 1 := by
      unfold errOf
      by_cases hx : x < 0
      · rw [if_pos hx]
      · rw [if_neg hx, if_pos (h1.resolve_left hx)]
    refine ⟨none, 0, [], by rw [e1]; rfl, fun h0 => absurd h0 (by simp), fun _ => rfl, fun h0 => ?_, hb⟩
    rw [e1] at h0; cases h0
  · obtain ⟨⟨h1, h2, h3⟩, rfl⟩ := h
    have e1 : errOf x rows = 5 := by
      unfold errOf
      rw [if_neg (by omega), if_neg (by rw [h2]; simp), if_pos (by rw [← codeSep_eq]; exact h3)]
    refine ⟨none, 0, [], by rw [e1]; rfl, fun h0 => absurd h0 (by simp), fun _ => rfl, fun h0 => ?_, hb⟩
    rw [e1] at h0; cases h0
  · obtain ⟨⟨h1, h2, h3⟩, A1, c1, rfl, hl⟩ := h
    have e1 : errOf x rows = 0 := by
      unfold errOf
      rw [if_neg (by omega), if_neg (by rw [h2]; simp), if_neg (by rw [← codeSep_eq, h3]; simp)]
    obtain ⟨N, rfl⟩ : ∃ N : Nat, x = (N : Int) := ⟨x.toNat, by omega⟩
    have hv := validB_iff.1 h2
    exact ⟨A1, c1, coverL rows, by rw [e1], hl, fun h0 => absurd e1 h0, fun _ => ⟨N, rfl, hv, cover_ok hv (codeSep_iff.1 h3)⟩, hb⟩

/-- few rows of few signs, in memory below B -/
structure RowsIn (w : World) (B : Nat) (A : Option Addr) (rows : List (List Int × Bool)) : Prop where
  at_ : RowsAt w B A rows
  few : rows.length ≤ 90
  six : ∀ k, k < rows.length → (sg rows k).length ≤ 6
  i64 : ∀ k, k < rows.length → ∀ x ∈ sg rows k, In64 x
theorem RowsIn.below {w w' : World} {B : Nat} {A : Option Addr} {rows : List (List Int × Bool)} (h : RowsIn w B A rows) (hb : Below B w w') : RowsIn w' B A rows := ⟨h.at_.below hb, h.few, h.six, h.i64⟩

theorem Cover_good (x : Int) (hx6 : x ≤ 6) (A : Option Addr) (c B : Nat) (rows : List (List Int × Bool)) (w : World) (hB : B ≤ w.heap.size) (hr : RowsIn w B A rows) (htab : TabOk w) :
    Calls Tryz.prog 19 #[.int .i64 x, .slice A rows.length c] w (CoverGood x rows w) :=
  (Cover_any x hx6 A rows.length c B rows w hB hr.at_ rfl hr.few hr.six hr.i64 htab (fun _ h => pick_signs (validB_iff.1 h) (Nat.le_refl _)) (fun _ h k hk => (pick_signs (b := false) (validB_iff.1 h) (Nat.le_refl _) k hk).1)).mono fun _ _ h => coverGood_of h

/-! ### the fixed example -/
def awRows : List (List Int × Bool) := [([0], true), ([1], false), ([-1], false)]
theorem only_two {x : Int} (h0 : 1 ≤ x) (h1 : x ≤ 7) (hp : meet x 1 = false) (hm : meet x (-1) = false) : x = 2 := by
  obtain rfl | rfl | rfl | rfl | rfl | rfl | rfl | rfl := eight (x := x) (by omega) h1
  all_goals first | rfl | (exfalso; revert hp; decide +kernel) | (exfalso; revert hm; decide +kernel) | omega
theorem permTo_one (t s : List Int) : permTo t s 1 = meet (cAt t 0) (cAt s 0) := by
  simp [permTo, cAt]
theorem aw_cover {ts : List (List Int)} (h : CoverOk 1 awRows ts) : ts = [[2]] := by
  have hall : ∀ t ∈ ts, t = [2] := fun t ht => by
    obtain ⟨h1, h2⟩ := h.term t ht
    have a1 := h.no 1 (by decide) rfl t ht
    have a2 := h.no 2 (by decide) rfl t ht
    rw [permTo_one] at a1 a2
    have := only_two (h2 0 (by omega)).1 (h2 0 (by omega)).2 a1 a2
    match t, h1 with
    | [y], _ => simp [cAt] at this; rw [this]
  obtain ⟨t0, ht0, _⟩ := h.yes 0 (by decide) rfl
  match ts, h, hall, ht0 with
  | [a], _, hall, _ => rw [hall a (by simp)]
  | a :: b :: r, h, hall, _ =>
    exfalso
    obtain ⟨k, hk, _, h2, h3⟩ := h.need 0 (by simp)
    have := h3 1 (by simp) (by omega)
    have ea := hall a (by simp)
    have eb := hall b (by simp)
    rw [show (a :: b :: r).getD 0 [] = a from rfl, ea] at h2
    rw [show (a :: b :: r).getD 1 [] = b from rfl, eb, h2] at this
    cases this
theorem aw_err : errOf 1 awRows = 0 := by decide
end Go.Proofs.YtkkliemgidhgmaaGreatDoor
