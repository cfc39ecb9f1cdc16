/- Degrees: plain words, and the contract of sparse.Degree. -/
import Derived.Laws.Small
import Derived.Test.YtpbapoanjkekmaaT3
namespace Go.Proofs.Ytpbapoanjkekmaa
open Go.RowKit

/-! ### plain words -/
theorem mx_eq (x y : Int) : (if y > x then y else x) = max x y := by split <;> omega
/-- the exponent that counts at a level -/
def dg (L : Int) (m : Mo) : Int := if 1 ≤ L ∧ L ≤ 4 then gt m (L - 1).toNat else 0
def sm (m : Mo) : Int := m.1 + m.2.1 + m.2.2.1 + m.2.2.2
def mxL (f : Mo → Int) (a : Int) (l : List Tm) : Int := l.foldl (fun a t => max a (f t.2)) a
theorem mxL_snoc (f : Mo → Int) (a : Int) (l : List Tm) (t : Tm) : mxL f a (l ++ [t]) = max (mxL f a l) (f t.2) := by simp [mxL]
theorem mxL_bd {f : Mo → Int} {lo hi : Int} : ∀ (l : List Tm) (a : Int), lo ≤ a → a ≤ hi → (∀ t ∈ l, f t.2 ≤ hi) → lo ≤ mxL f a l ∧ mxL f a l ≤ hi := by
  intro l
  induction l with
  | nil => intro a h1 h2 _; exact ⟨h1, h2⟩
  | cons t l ih =>
    intro a h1 h2 h3
    have h4 := h3 t (by simp)
    exact ih (max a (f t.2)) (by omega) (by omega) (fun s hs => h3 s (List.mem_cons_of_mem _ hs))
theorem mxL_start {f : Mo → Int} {l : List Tm} (hl : l ≠ []) (h : ∀ t ∈ l, 0 ≤ f t.2) : mxL f 0 l = mxL f (-1) l := by
  cases l with
  | nil => exact absurd rfl hl
  | cons t l =>
    have := h t (by simp)
    show mxL f (max 0 (f t.2)) l = mxL f (max (-1) (f t.2)) l
    rw [show max (0 : Int) (f t.2) = max (-1) (f t.2) by omega]
theorem mxL_zero {f : Mo → Int} {l : List Tm} (hl : l ≠ []) (h : ∀ t ∈ l, f t.2 = 0) : mxL f (-1) l = 0 := by
  rw [← mxL_start hl fun t ht => by rw [h t ht]; exact Int.le_refl _]
  have := mxL_bd (f := f) (lo := 0) (hi := 0) l 0 (Int.le_refl _) (Int.le_refl _) (fun t ht => by rw [h t ht]; exact Int.le_refl _)
  omega
def degL (L : Int) (l : List Tm) : Int := mxL (dg L) (-1) l
def totL (l : List Tm) : Int := mxL sm (-1) l
theorem MB.gt {E : Int} {m : Mo} (h : MB E m) (j : Nat) (hj : j < 4) : Go.Proofs.Ytpbapoanjkekmaa.gt m j ≤ E := by
  unfold MB at h
  rcases (by omega : j = 0 ∨ j = 1 ∨ j = 2 ∨ j = 3) with rfl | rfl | rfl | rfl
  · exact h.1
  · exact h.2.1
  · exact h.2.2.1
  · exact h.2.2.2
theorem gt_nn {m : Mo} (h : vld m = true) (j : Nat) (hj : j < 4) : 0 ≤ gt m j := by
  rw [vld_iff] at h
  rcases (by omega : j = 0 ∨ j = 1 ∨ j = 2 ∨ j = 3) with rfl | rfl | rfl | rfl
  · exact h.1
  · exact h.2.1
  · exact h.2.2.1
  · exact h.2.2.2
theorem dg_nn {L : Int} {m : Mo} (h : vld m = true) : 0 ≤ dg L m := by
  unfold dg
  split
  · exact gt_nn h _ (by omega)
  · exact Int.le_refl _
theorem dg_le {L E : Int} {m : Mo} (h : MB E m) (hE : 0 ≤ E) : dg L m ≤ E := by
  unfold dg
  split
  · exact h.gt _ (by omega)
  · exact hE
theorem dg_out {L : Int} {m : Mo} (h : ¬ (1 ≤ L ∧ L ≤ 4)) : dg L m = 0 := if_neg h
theorem sm_le {E : Int} {m : Mo} (h : MB E m) : sm m ≤ 4 * E := by unfold MB at h; unfold sm; omega
theorem sm_nn {m : Mo} (h : vld m = true) : 0 ≤ sm m := by rw [vld_iff] at h; unfold sm; omega

/-! ### Degree -/
set_option maxHeartbeats 4000000 in
set_option maxRecDepth 100000 in
theorem Degree_out (A : Option Addr) (c B N : Nat) (E : Int) (M : Nat) (L : Int) (ps : List PT) (w : World) (hB : B ≤ w.heap.size) (h : PIn w B A ps N E M) (hN : N ≤ 50000) (hM : M < Big) (hL : ¬ (1 ≤ L ∧ L ≤ 4)) :
    Calls Try.prog 22 #[.slice A ps.length c, .int .i64 L] w fun e w' => (∃ P, Canon P ∧ (∀ m, cf P m = cf (ps.map PT.tm) m) ∧ e = .returned (.int .i64 (degL L P))) ∧ Below w.heap.size w w' := by
  have HN := Lib.hid (Normal_poly A c B N E M ps w hB h hN hM)
  have hlv := fun W => lvl_any L W
  have hl : (decide (1 ≤ L) && decide (L ≤ 4)) = false := by
    by_cases h1 : 1 ≤ L
    · have h2 : ¬ L ≤ 4 := fun h2 => hL ⟨h1, h2⟩
      simp [h2]
    · simp [h1]
  rw [hl] at hlv
  have HL := Lib.hid hlv
  have HLL := Lib.hid hL
  clear h hlv hl hL
  go_enter Try.func22, Try.ntmps22
  go_wp2_with fail
  refine HN.out.mono ?_
  rintro e w1 ⟨A1, c1, qs, rfl, hg, hb⟩
  have HG := Lib.hid hg
  clear hg HN
  rcases Nat.eq_zero_or_pos qs.length with h0 | h0
  · have hq : qs = [] := List.eq_nil_of_length_eq_zero h0
    subst hq
    clear h0
    go_wp2_with fail
    go_ret
    exact ⟨⟨[], Canon.nil, fun m => HG.out.cf m, rfl⟩, hb⟩
  · have hne : qs.map PT.tm ≠ [] := fun e => by rw [List.map_eq_nil_iff] at e; rw [e] at h0; exact absurd h0 (by simp)
    have HZ := Lib.hid (show degL L (qs.map PT.tm) = 0 from mxL_zero hne fun t _ => dg_out HLL.out)
    have h1 : ¬ ((qs.length : Int) = 0) := by omega
    clear hne
    generalize hpn : qs.length = pn at *
    clear hpn
    go_wp2_with fail
    refine (HL.out _).mono ?_
    rintro e w2 ⟨rfl, rfl⟩
    go_wp2_with fail
    go_ret
    exact ⟨⟨qs.map PT.tm, HG.out.can, fun m => HG.out.cf m, by rw [HZ.out]; rfl⟩, hb⟩

set_option maxHeartbeats 4000000 in
set_option maxRecDepth 100000 in
theorem Degree_in (A : Option Addr) (c B N : Nat) (E : Int) (M j : Nat) (hj : j < 4) (L : Int) (hLj : L = (j : Int) + 1) (ps : List PT) (w : World) (hB : B ≤ w.heap.size) (h : PIn w B A ps N E M) (hN : N ≤ 50000) (hM : M < Big) :
    Calls Try.prog 22 #[.slice A ps.length c, .int .i64 L] w fun e w' => (∃ P, Canon P ∧ (∀ m, cf P m = cf (ps.map PT.tm) m) ∧ e = .returned (.int .i64 (mxL (fun m => gt m j) (-1) P))) ∧ Below w.heap.size w w' := by
  have HN := Lib.hid (Normal_poly A c B N E M ps w hB h hN hM)
  have hlv := fun W => lvl_any L W
  have hl : (decide (1 ≤ L) && decide (L ≤ 4)) = true := by
    rw [decide_eq_true (show 1 ≤ L by omega), decide_eq_true (show L ≤ 4 by omega)]; rfl
  rw [hl] at hlv
  have HL := Lib.hid hlv
  clear h hlv hl
  have hff : ∀ m, vld m = true → 0 ≤ (fun m => gt m j) m := fun m hm => gt_nn hm j hj
  generalize hf : (fun m => gt m j) = f at *
  have HFF := Lib.hid hff
  have HF := Lib.hid hf
  clear hf hff
  rcases (by omega : j = 0 ∨ j = 1 ∨ j = 2 ∨ j = 3) with rfl | rfl | rfl | rfl
  all_goals
    first | obtain rfl : L = 1 := hLj | obtain rfl : L = 2 := hLj | obtain rfl : L = 3 := hLj | obtain rfl : L = 4 := hLj
    go_enter Try.func22, Try.ntmps22
    go_wp2_with fail
    refine HN.out.mono ?_
    rintro e w1 ⟨A1, c1, qs, rfl, hg, hb⟩
    have HG := Lib.hid hg
    clear hg HN
    rcases Nat.eq_zero_or_pos qs.length with h0 | h0
    · have hq : qs = [] := List.eq_nil_of_length_eq_zero h0
      subst hq
      clear h0
      go_wp2_with fail
      go_ret
      exact ⟨⟨[], Canon.nil, fun m => HG.out.cf m, rfl⟩, hb⟩
    · have hne : qs.map PT.tm ≠ [] := fun e => by rw [List.map_eq_nil_iff] at e; rw [e] at h0; exact absurd h0 (by simp)
      have HNE := Lib.hid hne
      have HO := Lib.hid HG.out.own.polyIn
      have h1 : ¬ ((qs.length : Int) = 0) := by omega
      have hln : qs.length ≤ 50000 := Nat.le_trans HG.out.len hN
      clear hne
      generalize hpn : qs.length = pn at *
      have HPN := Lib.hid hpn
      clear hpn
      go_wp2_with fail
      refine (HL.out _).mono ?_
      rintro e w2 ⟨rfl, rfl⟩
      go_wp2_with fail
      go_loopg [6, 8, 20] pn (fun gn dd _ ix wr => ∃ k : Nat, k ≤ pn ∧ gn = pn - k ∧ ix = .int .i64 k ∧ dd = .int .i64 (mxL f 0 ((qs.take k).map PT.tm)) ∧ Below w1.heap.size w1 wr)
      case atStart => exact ⟨0, Nat.zero_le _, rfl, rfl, rfl, Below.refl _ _⟩
      case round =>
        obtain ⟨k, hk, hgk, rfl, rfl, hbl⟩ := hrel
        have HGK := Lib.hid hgk; clear hgk
        by_cases hlt : k < pn
        · obtain ⟨p, hp⟩ : ∃ p, qs[k]? = some p := ⟨_, List.getElem?_eq_getElem (by have := HPN.out; omega)⟩
          obtain ⟨b, o, rfl, hbb, c0, c1', c2, c3, c4, c5⟩ := (HO.out.below hbl).at_ hp
          have i1 : (k : Int) < (pn : Int) := by omega
          have i2 : (0 : Int) ≤ (k : Int) := by omega
          have HT := Lib.hid (show mxL f 0 ((qs.take (k + 1)).map PT.tm) = max (mxL f 0 ((qs.take k).map PT.tm)) (f p.m) by rw [take_snoc_tm hp]; exact mxL_snoc _ _ _ _)
          have HX := Lib.hid hbl
          have hba := (Below.refl wr.heap.size wr).alloc (Nat.le_refl _) (.cells #[.bool p.ng, .slice p.A p.ds.length p.c, .int .i64 p.m.1, .int .i64 p.m.2.1, .int .i64 p.m.2.2.1, .int .i64 p.m.2.2.2] 35)
          have HBA := Lib.hid hba
          clear hbl hba hp
          generalize mxL f 0 ((qs.take k).map PT.tm) = dd at *
          go_wp2_with fail
          go_roundg (pn - (k + 1))
          case rel => exact ⟨k + 1, by omega, rfl, by go_num, by rw [HT.out, ← HF.out]; rfl, HX.out.trans (HBA.out.mono HX.out.size)⟩
          case measure => have := HGK.out; omega
        · obtain rfl : k = pn := by omega
          have hfull : (qs.take k).map PT.tm = qs.map PT.tm := by rw [← HPN.out, List.take_length]
          rw [hfull]
          have HX := Lib.hid hbl
          have HM := Lib.hid (mxL_start (f := f) HNE.out (fun t ht => by obtain ⟨q, hq, rfl⟩ := List.mem_map.1 ht; exact HFF.out _ (HG.out.vl hq)))
          rw [HM.out]
          clear hbl hfull
          go_wp2_with fail
          go_ret
          exact ⟨⟨qs.map PT.tm, HG.out.can, fun m => HG.out.cf m, rfl⟩, hb.trans (HX.out.mono hb.size)⟩

theorem Degree_any (A : Option Addr) (c B N : Nat) (E : Int) (M : Nat) (L : Int) (ps : List PT) (w : World) (hB : B ≤ w.heap.size) (h : PIn w B A ps N E M) (hN : N ≤ 50000) (hM : M < Big) :
    Calls Try.prog 22 #[.slice A ps.length c, .int .i64 L] w fun e w' => (∃ P, Canon P ∧ (∀ m, cf P m = cf (ps.map PT.tm) m) ∧ e = .returned (.int .i64 (degL L P))) ∧ Below w.heap.size w w' := by
  by_cases hL : 1 ≤ L ∧ L ≤ 4
  · obtain ⟨j, rfl⟩ : ∃ j : Nat, L = (j : Int) + 1 := ⟨(L - 1).toNat, by omega⟩
    refine (Degree_in A c B N E M j (by omega) _ rfl ps w hB h hN hM).mono ?_
    rintro e w' ⟨⟨P, h1, h2, rfl⟩, h3⟩
    refine ⟨⟨P, h1, h2, ?_⟩, h3⟩
    have : (fun m => gt m j) = dg ((j : Int) + 1) := funext fun m => by
      unfold dg
      rw [if_pos hL, show ((j : Int) + 1 - 1).toNat = j by omega]
    rw [this]
    rfl
  · exact Degree_out A c B N E M L ps w hB h hN hM hL
end Go.Proofs.Ytpbapoanjkekmaa
