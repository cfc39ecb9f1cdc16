/- The canonical form of a tree: plain facts. -/
import Derived.Test.YtkkliemgidhgmaaGreatDoorRN
import Derived.Test.YtkkliemgidhgmaaGreatDoorH1
namespace Go.Proofs.YtkkliemgidhgmaaGreatDoor
open Go.RowKit

/-- the terms of a tree -/
def colTm (t : RP) : List Tm := (colT t (0, 0, 0, 0)).map fun x => (ival x.1.1 x.1.2, x.2)
/-- T is the canonical form of t -/
def CanT (t T : RP) : Prop := (canB t = true ∧ T = t) ∨ (canB t = false ∧ ∃ P, Canon P ∧ (∀ m, cf P m = cf (colTm t) m) ∧ T = bldT 4 P)
theorem CanT.unique {t T T' : RP} (h : CanT t T) (h' : CanT t T') : T = T' := by
  rcases h with ⟨a, rfl⟩ | ⟨a, P, h1, h2, rfl⟩
  · rcases h' with ⟨_, rfl⟩ | ⟨b, _⟩
    · rfl
    · rw [a] at b; cases b
  · rcases h' with ⟨b, _⟩ | ⟨_, P', k1, k2, rfl⟩
    · rw [a] at b; cases b
    · rw [h1.unique k1 fun m => (h2 m).trans (k2 m).symm]
theorem key_tm (qs : List PT) : qs.map PT.tm = (qs.map PT.key).map fun x => (ival x.1.1 x.1.2, x.2) := by
  rw [List.map_map]
  rfl
mutual
theorem colT_mem {dg : Nat} : ∀ (t : RP) (m : Mo) (X : Int), FewT dg t → ExpB m X → ∀ x ∈ colT t m, x.1.2.length ≤ dg ∧ ExpB x.2 (X + 12 * depT t)
  | .mk l g ds ks, m, X, hf, hm, x, hx => by
    simp only [FewT] at hf
    simp only [colT] at hx
    simp only [depT]
    split at hx
    · rw [List.mem_singleton] at hx
      subst hx
      refine ⟨hf.1, ?_⟩
      obtain ⟨⟨a0, b0⟩, ⟨a1, b1⟩, ⟨a2, b2⟩, ⟨a3, b3⟩⟩ := hm
      unfold ExpB
      simp only []
      omega
    · split at hx
      · cases hx
      · have h1 := hm.at_ (l.toNat - 1)
        have hX : 0 ≤ X := by omega
        have := colL_mem (l.toNat - 1) ks m X (expE m (l.toNat - 1)) hf.2.2 hm h1.1 (by omega) x hx
        refine ⟨this.1, ?_⟩
        have h2 := this.2
        have h3 : (ks.length : Int) ≤ 12 := by omega
        obtain ⟨⟨a0, b0⟩, ⟨a1, b1⟩, ⟨a2, b2⟩, ⟨a3, b3⟩⟩ := h2
        unfold ExpB
        omega
theorem colL_mem {dg : Nat} (i : Nat) : ∀ (ts : List RP) (m : Mo) (X e : Int), FewL dg ts → ExpB m X → 0 ≤ e → e ≤ X → ∀ x ∈ colL i ts m e, x.1.2.length ≤ dg ∧ ExpB x.2 (X + ts.length + 12 * depL ts)
  | [], m, X, e, _, _, _, _, x, hx => by simp [colL] at hx
  | t :: ts, m, X, e, hf, hm, h0, h1, x, hx => by
    simp only [FewL] at hf
    simp only [colL] at hx
    simp only [depL, List.length_cons]
    rcases List.mem_append.1 hx with hx | hx
    · have := colT_mem t (setE m i e) X hf.1 (hm.set i h0 h1 (Int.le_refl _)) x hx
      refine ⟨this.1, ?_⟩
      obtain ⟨⟨a0, b0⟩, ⟨a1, b1⟩, ⟨a2, b2⟩, ⟨a3, b3⟩⟩ := this.2
      unfold ExpB
      omega
    · have hm' : ExpB m (X + 1) := by
        obtain ⟨⟨a0, b0⟩, ⟨a1, b1⟩, ⟨a2, b2⟩, ⟨a3, b3⟩⟩ := hm
        unfold ExpB
        omega
      have := colL_mem i ts m (X + 1) (e + 1) hf.2 hm' (by omega) (by omega) x hx
      refine ⟨this.1, ?_⟩
      obtain ⟨⟨a0, b0⟩, ⟨a1, b1⟩, ⟨a2, b2⟩, ⟨a3, b3⟩⟩ := this.2
      unfold ExpB
      omega
end
theorem fillF_len (f : List Tm → RP) (i : Nat) : ∀ (n : Nat) (ts : List Tm) (ks : List RP), (fillF f i n ts ks).length = ks.length
  | 0, _, _ => rfl
  | _ + 1, [], _ => rfl
  | n + 1, t :: r, ks => by
    rw [fillF, fillF_len f i n, List.length_set]
theorem fillF_all {Q : RP → Prop} (f : List Tm → RP) (i : Nat) : ∀ (n : Nat) (ts : List Tm) (ks : List RP), (∀ k ∈ ks, Q k) → (∀ l : List Tm, (∀ x ∈ l, x ∈ ts) → Q (f l)) → ∀ k ∈ fillF f i n ts ks, Q k
  | 0, _, _, h, _ => h
  | _ + 1, [], _, h, _ => h
  | n + 1, t :: r, ks, h, hf => by
    rw [fillF]
    refine fillF_all f i n _ _ (fun k hk => ?_) (fun l hl => hf l fun x hx => (List.dropWhile_sublist _).subset (hl x hx))
    rcases List.mem_or_eq_of_mem_set hk with hk | rfl
    · exact h k hk
    · exact hf _ fun x hx => (List.takeWhile_sublist _).subset hx
theorem bldT_sm {X : Nat} (hX : 1 ≤ X) : ∀ (L : Nat) (ts : List Tm), L ≤ 4 → (∀ t ∈ ts, (dig t.1.natAbs).length ≤ X ∧ ∀ i, i < 4 → gt t.2 i + 1 ≤ (X : Int)) → SmT X (bldT L ts)
  | 0, [], _, _ => by rw [bldT]; exact SmT.mk (Nat.zero_le _) (Nat.zero_le _) (by simp)
  | 0, t :: r, _, h => by rw [bldT]; exact SmT.mk (h t List.mem_cons_self).1 (Nat.zero_le _) (by simp)
  | L + 1, [], _, _ => by rw [bldT]; exact SmT.mk (Nat.zero_le _) (Nat.zero_le _) (by simp)
  | L + 1, t :: r, hL, h => by
    rw [bldT]
    split
    · exact bldT_sm hX L (t :: r) (by omega) h
    · refine SmT.mk (Nat.zero_le _) ?_ (fillF_all _ _ _ _ _ (fun k hk => ?_) (fun l hl => bldT_sm hX L l (by omega) fun x hx => h x (hl x hx)))
      · rw [fillF_len, List.length_replicate]
        have := (h t List.mem_cons_self).2 L (by omega)
        omega
      · rw [(List.mem_replicate.1 hk).2]
        exact SmT.mk (Nat.zero_le _) (Nat.zero_le _) (by simp)
end Go.Proofs.YtkkliemgidhgmaaGreatDoor
