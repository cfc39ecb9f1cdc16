/- What Normal makes of a tree is short. -/
import Derived.Test.YtkkliemgidhgmaaGreatDoorMC
namespace Go.Proofs.YtkkliemgidhgmaaGreatDoor
open Go.RowKit

mutual
def DigT : RP → Prop
  | .mk _ _ ds ks => Dig ds ∧ DigL ks
def DigL : List RP → Prop
  | [] => True
  | t :: ts => DigT t ∧ DigL ts
end
theorem DigL.mem {ts : List RP} : DigL ts ↔ ∀ u ∈ ts, DigT u := by
  induction ts with
  | nil => simp [DigL]
  | cons t ts ih => simp [DigL, ih]
theorem DigT.mk' {l : Int} {g : Bool} {ds : List Nat} {ks : List RP} (h1 : Dig ds) (h3 : ∀ u ∈ ks, DigT u) : DigT (.mk l g ds ks) := by
  simp only [DigT]
  exact ⟨h1, DigL.mem.2 h3⟩
section
variable {w : World} {S : Nat → Prop}
mutual
theorem RV.digT : ∀ (t : RP) (vs : List Value), RV w S t vs → DigT t
  | .mk l g ds ks, vs, h => by
    unfold RV at h
    obtain ⟨A, c, K, kc, h1, h2, h3, h4, h5, rows, h6, h7⟩ := h
    simp only [DigT]
    exact ⟨h3, RVs.digL ks rows h7⟩
theorem RVs.digL : ∀ (ts : List RP) (rows : List (List Value)), RVs w S ts rows → DigL ts
  | [], _, _ => by simp [DigL]
  | t :: ts, rows, h => by
    unfold RVs at h
    obtain ⟨r, rs, h1, h2, h3⟩ := h
    simp only [DigL]
    exact ⟨RV.digT t r h2, RVs.digL ts rs h3⟩
end
end
mutual
theorem colT_dig : ∀ (t : RP) (m : Mo), DigT t → ∀ x ∈ colT t m, Dig x.1.2
  | .mk l g ds ks, m, hf, x, hx => by
    simp only [DigT] at hf
    simp only [colT] at hx
    split at hx
    · rw [List.mem_singleton] at hx
      subst hx
      exact hf.1
    · split at hx
      · cases hx
      · exact colL_dig (l.toNat - 1) ks m _ hf.2 x hx
theorem colL_dig (i : Nat) : ∀ (ts : List RP) (m : Mo) (e : Int), DigL ts → ∀ x ∈ colL i ts m e, Dig x.1.2
  | [], m, e, _, x, hx => by simp [colL] at hx
  | t :: ts, m, e, hf, x, hx => by
    simp only [DigL] at hf
    simp only [colL] at hx
    rcases List.mem_append.1 hx with hx | hx
    · exact colT_dig t _ hf.1 x hx
    · exact colL_dig i ts m _ hf.2 x hx
end
theorem bldT_dig : ∀ (L : Nat) (ts : List Tm), DigT (bldT L ts)
  | 0, [] => by rw [bldT]; exact DigT.mk' (by simp [Dig]) (by simp)
  | 0, t :: r => by rw [bldT]; exact DigT.mk' (dig_dig _) (by simp)
  | L + 1, [] => by rw [bldT]; exact DigT.mk' (by simp [Dig]) (by simp)
  | L + 1, t :: r => by
    rw [bldT]
    split
    · exact bldT_dig L (t :: r)
    · refine DigT.mk' (by simp [Dig]) (fillF_all _ _ _ _ _ (fun k hk => ?_) (fun l hl => bldT_dig L l))
      rw [(List.mem_replicate.1 hk).2]
      exact DigT.mk' (by simp [Dig]) (by simp)
mutual
theorem cpT_sm {X : Nat} : ∀ (t : RP), SmT X t → DigT t → SmT X (cpT t)
  | .mk l g ds ks, h, hd => by
    simp only [SmT] at h
    simp only [DigT] at hd
    rw [cpT_eq]
    split
    · refine SmT.mk ?_ (Nat.zero_le _) (by simp)
      exact Nat.le_trans (dig_len_le hd.1) h.1
    · refine SmT.mk (Nat.zero_le _) ?_ (cpL_sm ks h.2.2 hd.2)
      rw [List.length_map]
      exact h.2.1
theorem cpL_sm {X : Nat} : ∀ (ts : List RP), SmL X ts → DigL ts → ∀ u ∈ ts.map cpT, SmT X u
  | [], _, _ => by simp
  | t :: ts, h, hd => by
    simp only [SmL] at h
    simp only [DigL] at hd
    intro u hu
    rw [List.map_cons] at hu
    rcases List.mem_cons.1 hu with rfl | hu
    · exact cpT_sm t h.1 hd.1
    · exact cpL_sm ts h.2 hd.2 u hu
end
theorem canT_sm {dg : Nat} (hdg : dg ≤ 500) {t T : RP} (hD : depT t ≤ 12) (hf : FewT dg t) (hcn : cntT t ≤ 1000) (hd : DigT t) (h : CanT t T) : SmT 1001 (cpT T) := by
  rcases h with ⟨_, rfl⟩ | ⟨_, P, h1, h2, rfl⟩
  · exact cpT_sm T (FewT.sm (by omega) (by omega) T hf) hd
  · refine cpT_sm _ (bldT_sm (by omega) 4 P (by omega) fun s hs => ?_) (bldT_dig _ _)
    have hm : ExpB (0, 0, 0, 0) 0 := by simp [ExpB]
    have hq : ∀ q ∈ colTm t, q.1.natAbs ≤ pw 500 ∧ ExpB q.2 (0 + 12 * depT t) := fun q hq => by
      obtain ⟨x, hx, rfl⟩ := List.mem_map.1 hq
      have h3 := colT_mem t _ _ hf hm x hx
      refine ⟨?_, h3.2⟩
      rw [ival_abs]
      exact Nat.le_of_lt (val_pwR (colT_dig t _ hd x hx) (Nat.le_trans h3.1 hdg))
    have hl : (colTm t).length ≤ 1000 := by
      unfold colTm
      rw [List.length_map]
      have := colT_len t (0, 0, 0, 0)
      omega
    refine ⟨?_, fun i hi => ?_⟩
    · have h4 : s.1.natAbs ≤ nrm (colTm t) := by
        rw [← h1.cf_mem hs, h2]
        exact cf_le_nrm _ _
      have h5 := nrm_eachR (colTm t) (pw 500) fun q h => (hq q h).1
      have h6 : s.1.natAbs < Big := Nat.lt_of_le_of_lt (Nat.le_trans h4 (Nat.le_trans h5 (Nat.mul_le_mul_right _ hl))) (big_eachR (Nat.le_refl _) (by omega))
      exact Nat.le_trans (dig_len_lt (n := 600) (by unfold Big pw at h6; exact h6)) (by omega)
    · obtain ⟨q, hq1, _, hq2⟩ := h1.src h2 hs
      have h3 := (hq q hq1).2
      rw [hq2] at h3
      obtain ⟨⟨a0, b0⟩, ⟨a1, b1⟩, ⟨a2, b2⟩, ⟨a3, b3⟩⟩ := h3
      rcases (by omega : i = 0 ∨ i = 1 ∨ i = 2 ∨ i = 3) with rfl | rfl | rfl | rfl
      · show s.2.1 + 1 ≤ _; omega
      · show s.2.2.1 + 1 ≤ _; omega
      · show s.2.2.2.1 + 1 ≤ _; omega
      · show s.2.2.2.2 + 1 ≤ _; omega
mutual
/-- all lists of a matrix are short -/
def SmM (X : Nat) : MX → Prop
  | .mk _ _ p ks => SmT X p ∧ ks.length ≤ X ∧ SmML X ks
def SmML (X : Nat) : List MX → Prop
  | [] => True
  | t :: ts => SmM X t ∧ SmML X ts
end
theorem SmML.mem {X : Nat} {ts : List MX} : SmML X ts ↔ ∀ u ∈ ts, SmM X u := by
  induction ts with
  | nil => simp [SmML]
  | cons t ts ih => simp [SmML, ih]
theorem SmM.at_ {X : Nat} {t : MX} (h : SmM X t) : SmT X t.p ∧ t.ks.length ≤ X ∧ ∀ u ∈ t.ks, SmM X u := by
  cases t
  simp only [SmM] at h
  exact ⟨h.1, h.2.1, SmML.mem.1 h.2.2⟩
theorem SmM.mk' {X : Nat} {k r : Int} {p : RP} {ks : List MX} (h1 : SmT X p) (h2 : ks.length ≤ X) (h3 : ∀ u ∈ ks, SmM X u) : SmM X (.mk k r p ks) := by
  simp only [SmM]
  exact ⟨h1, h2, SmML.mem.2 h3⟩
theorem zero_sm {X : Nat} : SmT X zeroT := SmT.mk (Nat.zero_le _) (Nat.zero_le _) (by simp)
theorem zeroM_sm {X : Nat} : SmM X zeroM := SmM.mk' zero_sm (Nat.zero_le _) (by simp)
theorem atms_mem : ∀ (ps : List RP) (ss : List Int) (a : MX), a ∈ atms ps ss → ∃ p ∈ ps, ∃ s, a ∈ atm p s
  | [], _, a, h => by simp [atms] at h
  | _ :: _, [], a, h => by simp [atms] at h
  | p :: ps, s :: ss, a, h => by
    simp only [atms] at h
    rcases List.mem_append.1 h with h | h
    · exact ⟨p, List.mem_cons_self, s, h⟩
    · obtain ⟨q, hq, s', h'⟩ := atms_mem ps ss a h
      exact ⟨q, List.mem_cons_of_mem _ hq, s', h'⟩
theorem nrT_sm {dg : Nat} (hdg : dg ≤ 500) {t : RP} (hD : depT t ≤ 12) (hf : FewT dg t) (hcn : cntT t ≤ 1000) (hd : DigT t) : SmT 1001 (nrT t) := by
  rcases nrT_cases t with ⟨T, h, e⟩ | e
  · rw [e]; exact canT_sm hdg hD hf hcn hd h
  · rw [e]; exact zero_sm
theorem orM_sm {dg : Nat} (hdg : dg ≤ 500) {ps : List RP} {ts : List (List Int)} (hD : ∀ p ∈ ps, depT p ≤ 12 ∧ FewT dg p ∧ cntT p ≤ 1000) (hd : ∀ p ∈ ps, DigT p) (htl : ts.length ≤ 1000) (hg : matB ps.length ts = true) (hpl : ps.length ≤ 1000) : SmM 1001 (orM ps ts) := by
  refine SmM.mk' zero_sm (by rw [List.length_map]; omega) (fun u hu => ?_)
  obtain ⟨t, ht, rfl⟩ := List.mem_map.1 hu
  unfold matB at hg
  rw [List.all_eq_true] at hg
  have h1 := hg t ht
  unfold termB at h1
  rw [Bool.and_eq_true, decide_eq_true_eq] at h1
  refine SmM.mk' zero_sm (Nat.le_trans (atms_len ps t) (by omega)) (fun a ha => ?_)
  obtain ⟨p, hp, s, hs⟩ := atms_mem ps t a ha
  unfold atm at hs
  split at hs
  · cases hs
  · split at hs
    · rw [List.mem_singleton] at hs
      rw [hs]; exact zeroM_sm
    · rw [List.mem_singleton] at hs
      rw [hs]
      have h2 := hD p hp
      exact SmM.mk' (nrT_sm hdg h2.1 h2.2.1 h2.2.2 (hd p hp)) (Nat.zero_le _) (by simp)
theorem MX.depth {ps : List RP} {ts : List (List Int)} : depM (orM ps ts) ≤ 3 := by
  have h1 : ∀ (l : List MX) (n : Nat), (∀ u ∈ l, depM u ≤ n) → depML l ≤ n := by
    intro l n h
    induction l with
    | nil => simp [depML]
    | cons a l ih =>
      simp only [depML]
      have := h a List.mem_cons_self
      have := ih fun u hu => h u (List.mem_cons_of_mem _ hu)
      omega
  unfold orM
  simp only [depM]
  have := h1 (ts.map (andM ps)) 2 fun u hu => by
    obtain ⟨t, _, rfl⟩ := List.mem_map.1 hu
    unfold andM
    simp only [depM]
    have := h1 (atms ps t) 1 fun a ha => by
      obtain ⟨p, _, s, hs⟩ := atms_mem ps t a ha
      unfold atm at hs
      split at hs
      · cases hs
      · split at hs
        · rw [List.mem_singleton] at hs
          rw [hs]; simp [depM, depML]
        · rw [List.mem_singleton] at hs
          rw [hs]; simp [depM, depML]
    omega
  omega
end Go.Proofs.YtkkliemgidhgmaaGreatDoor
