/- Contracts of cmp.Compare at ints and of the functions on monomials: sparse.CompareMono, negative, isLevel; the reference's Valid, CompareMono. -/
import Derived.Sort.Grow
import Derived.Test.YtpbapoanjkekmaaGreatZQ
import Derived.Test.YtpbapoanjkekmaaGreatZI
namespace Go.Proofs.YtpbapoanjkekmaaGreat
open Go.RowKit Go.Sort

/-- only draws, and new blocks -/
def Laid (w w' : World) : Prop := ∃ q os, w' = grow (w.drewN q) os
theorem Laid.refl (w : World) : Laid w w := ⟨0, #[], (grow_empty w).symm⟩
theorem Laid.drewN {w w' : World} (h : Laid w w') (n : Nat) : Laid w (w'.drewN n) := by
  obtain ⟨q, os, rfl⟩ := h
  exact ⟨q + n, os, by rw [← World.drewN_drewN]; rfl⟩
theorem Laid.alloc {w w' : World} (h : Laid w w') (o : Obj) : Laid w (w'.alloc o) := by
  obtain ⟨q, os, rfl⟩ := h
  exact ⟨q, os ++ #[o], by rw [alloc_eq_grow, grow_grow]⟩
theorem Laid.trans {a b c : World} (h : Laid a b) (k : Laid b c) : Laid a c := by
  obtain ⟨q, os, rfl⟩ := k
  have := h.drewN q
  obtain ⟨q', os', e⟩ := this
  exact ⟨q', os' ++ os, by rw [e, grow_grow]⟩
theorem Laid.drawn {a b c : World} (h : Laid a b) (k : Drawn b c) : Laid a c := by obtain ⟨n, rfl⟩ := k; exact h.drewN n
theorem Laid.below {w w' : World} (h : Laid w w') : Below w.heap.size w w' := by
  obtain ⟨q, os, rfl⟩ := h
  exact ⟨rfl, rfl, rfl, by rw [size_grow]; exact Nat.le_add_right _ _, fun k hk => heap_grow_old _ _ hk⟩

theorem isNaN_any (a : Int) (w : World) : Calls Tryz.prog 72 #[.int .i64 a] w fun e w' => e = .returned (.bool false) ∧ w = w' := by
  go_enter Tryz.func72, Tryz.ntmps72
  go_wp2
  go_ret
  exact ⟨by simp, rfl⟩
theorem cmpInt_any (a b : Int) (w : World) : Calls Tryz.prog 51 #[.int .i64 a, .int .i64 b] w fun e w' => e = .returned (.int .i64 (cmpI a b)) ∧ w = w' := by
  rcases Int.lt_trichotomy a b with h | h | h
  · have e : cmpI a b = -1 := by simp [cmpI, h]
    rw [e]
    clear e
    go_enter Tryz.func51, Tryz.ntmps51
    go_wp2_with (first | (go_at_call 72; refine (isNaN_any _ _).mono ?_; rintro e w' ⟨rfl, rfl⟩))
    go_ret
    exact ⟨rfl, rfl⟩
  · subst h
    have e : cmpI a a = 0 := by simp [cmpI]
    rw [e]
    clear e
    go_enter Tryz.func51, Tryz.ntmps51
    go_wp2_with (first | (go_at_call 72; refine (isNaN_any _ _).mono ?_; rintro e w' ⟨rfl, rfl⟩))
    go_ret
    exact ⟨rfl, rfl⟩
  · have e : cmpI a b = 1 := by have : ¬ a < b := by omega
                                simp [cmpI, h, this]
    have h' : ¬ a < b := by omega
    rw [e]
    clear e
    go_enter Tryz.func51, Tryz.ntmps51
    go_wp2_with (first | (go_at_call 72; refine (isNaN_any _ _).mono ?_; rintro e w' ⟨rfl, rfl⟩))
    go_ret
    exact ⟨rfl, rfl⟩

def gt (m : Mo) : Nat → Int
  | 0 => m.1
  | 1 => m.2.1
  | 2 => m.2.2.1
  | _ => m.2.2.2
def moV (m : Mo) : Array Value := #[.int .i64 m.1, .int .i64 m.2.1, .int .i64 m.2.2.1, .int .i64 m.2.2.2]
theorem moV_at (m : Mo) {j : Nat} (h : j < 4) : (moV m)[j]? = some (.int .i64 (gt m j)) := by
  match j, h with
  | 0, _ => rfl
  | 1, _ => rfl
  | 2, _ => rfl
  | 3, _ => rfl
def cmpTo (a b : Mo) : Nat → Int
  | 0 => 0
  | k + 1 => if cmpI (gt a k) (gt b k) ≠ 0 then cmpI (gt a k) (gt b k) else cmpTo a b k
theorem cmpTo_four (a b : Mo) : cmpTo a b 4 = cmpM a b := by
  simp only [cmpTo, cmpM, gt]
  by_cases h : cmpI a.1 b.1 = 0 <;> simp [h]
theorem cmpTo_ne {a b : Mo} {k : Nat} (h : cmpI (gt a k) (gt b k) ≠ 0) : cmpTo a b (k + 1) = cmpI (gt a k) (gt b k) := by simp [cmpTo, h]
theorem cmpTo_eq {a b : Mo} {k : Nat} (h : cmpI (gt a k) (gt b k) = 0) : cmpTo a b (k + 1) = cmpTo a b k := by simp [cmpTo, h]

set_option maxHeartbeats 1000000 in
theorem CMono_any (a b : Mo) (w : World) : Calls Tryz.prog 58 #[.agg (moV a), .agg (moV b)] w fun e w' => e = .returned (.int .i64 (cmpM a b)) ∧ Laid w w' := by
  obtain ⟨hb0, k0, k1, hs⟩ := boxes2 w 44 44 (moV a) (moV b)
  have hl : Laid w ((w.alloc (.cells (moV a) 44)).alloc (.cells (moV b) 44)) := ((Laid.refl w).alloc _).alloc _
  have HS := Lib.hid hs; clear hs
  have HC := Lib.hid (cmpTo_four a b)
  generalize cmpM a b = r at *
  go_enter Tryz.func58, Tryz.ntmps58
  go_wp2
  generalize (w.alloc (.cells (moV a) 44)).alloc (.cells (moV b) 44) = W at *
  go_loopg [5] 4 (fun gn i wr => ∃ (k : Nat), k ≤ 4 ∧ gn = k ∧ i = .int .i64 ((k : Int) - 1) ∧ cmpTo a b k = r ∧ Drawn W wr)
  case atStart => exact ⟨4, Nat.le_refl _, rfl, rfl, HC.out, Drawn.refl _⟩
  case round =>
    obtain ⟨k, hk, hgk, rfl, hr, hd⟩ := hrel
    have HG := Lib.hid hgk; clear hgk
    have HR := Lib.hid hr; clear hr
    by_cases h0 : 0 < k
    · obtain ⟨j, rfl⟩ : ∃ j, k = j + 1 := ⟨k - 1, by omega⟩
      have c0 : wr.cell? ⟨w.heap.size, j, none⟩ = some (.int .i64 (gt a j)) := ((k0.drawn hd).cell j).trans (moV_at a (by omega))
      have c1 : wr.cell? ⟨w.heap.size + 1, j, none⟩ = some (.int .i64 (gt b j)) := ((k1.drawn hd).cell j).trans (moV_at b (by omega))
      have hkk : ((j + 1 : Nat) : Int) - 1 = (j : Int) := by omega
      rw [hkk]
      have i0 : (0 : Int) ≤ (j : Int) := by omega
      have i1 : (j : Int) < 4 := by omega
      by_cases hz : cmpI (gt a j) (gt b j) = 0
      · have HR' := Lib.hid ((cmpTo_eq hz).symm.trans HR.out)
        have HQ : Hid (∀ W', Calls Tryz.prog 51 #[.int .i64 (gt a j), .int .i64 (gt b j)] W' fun e w' => e = .returned (.int .i64 0) ∧ W' = w') := Lib.hid (fun W' => by have := cmpInt_any (gt a j) (gt b j) W'; rwa [hz] at this)
        clear hz HR hkk
        generalize gt a j = x at *
        generalize gt b j = y at *
        go_wp2
        go_quiet ((go_at_call 51; exact Drawn.quiet ((HQ.out _).mono fun _ _ ⟨he, hw⟩ => ⟨he, hw ▸ Drawn.refl _⟩)))
        go_wp2
        go_roundg j
        case rel => exact ⟨j, by omega, rfl, rfl, HR'.out, hd.trans (.drewN _ _)⟩
        case measure => have := HG.out; omega
      · have HR' := Lib.hid ((cmpTo_ne hz).symm.trans HR.out)
        have HQ := Lib.hid (fun W' => cmpInt_any (gt a j) (gt b j) W')
        generalize cmpI (gt a j) (gt b j) = z at *
        have hzb : (z != 0) = true := by simpa using hz
        clear hkk HR hz
        generalize gt a j = x at *
        generalize gt b j = y at *
        go_wp2
        go_quiet ((go_at_call 51; exact Drawn.quiet ((HQ.out _).mono fun _ _ ⟨he, hw⟩ => ⟨he, hw ▸ Drawn.refl _⟩)))
        go_wp2
        go_ret
        exact ⟨by rw [HR'.out]; rfl, (hl.drawn hd).drewN _⟩
    · obtain rfl : k = 0 := by omega
      go_wp2
      go_ret
      exact ⟨by rw [← HR.out]; rfl, hl.drawn hd⟩

def vldTo (m : Mo) : Nat → Bool
  | 0 => true
  | k + 1 => vldTo m k && decide (0 ≤ gt m k)
theorem vldTo_four (m : Mo) : vldTo m 4 = vld m := by simp only [vldTo, vld, gt, Bool.true_and, Bool.and_assoc]
theorem vldTo_ok {m : Mo} {k : Nat} (h : vldTo m k = true) (hx : 0 ≤ gt m k) : vldTo m (k + 1) = true := by simp [vldTo, h, hx]
theorem vld_bad {m : Mo} {k : Nat} (h : k < 4) (hx : gt m k < 0) : vld m = false := by
  rcases (by omega : k = 0 ∨ k = 1 ∨ k = 2 ∨ k = 3) with rfl | rfl | rfl | rfl <;> simp only [gt] at hx <;> simp [vld] <;> omega

theorem Tryz.index_mono (m : Mo) (j : Nat) (hj : j < 4) (w : World) : (Instr.index 44 (.agg (moV m)) (.int .i64 (j : Int))).run Tryz.prog w = .ok (.int .i64 (gt m j)) w := by
  have h3 := moV_at m hj
  simp [Instr.index, run_underlying Tryz.underlying44, asIntOf, go_sem, hj, h3, Tryz.sizeOf3, Tryz.isAgg3]
set_option maxHeartbeats 2000000 in
set_option maxRecDepth 100000 in
theorem neg_any (m : Mo) (w : World) : Calls Tryz.prog 55 #[.agg (moV m)] w fun e w' => e = .returned (.bool (!vld m)) ∧ Laid w w' := by
  have hl : Laid w (w.alloc (.cells (moV m) 44)) := (Laid.refl w).alloc _
  have HB := Lib.hid (fun (k : Nat) => @vld_bad m k)
  have HO := Lib.hid (fun (k : Nat) => @vldTo_ok m k)
  have HF := Lib.hid (vldTo_four m)
  have HGT := Lib.hid (show gt m 0 = m.1 ∧ gt m 1 = m.2.1 ∧ gt m 2 = m.2.2.1 ∧ gt m 3 = m.2.2.2 from ⟨rfl, rfl, rfl, rfl⟩)
  have x0 : ∀ W, (Instr.index 44 (.agg #[.int .i64 m.1, .int .i64 m.2.1, .int .i64 m.2.2.1, .int .i64 m.2.2.2]) (.int .i64 0)).run Tryz.prog W = .ok (.int .i64 m.1) W := fun W => Tryz.index_mono m 0 (by decide) W
  have x1 : ∀ W, (Instr.index 44 (.agg #[.int .i64 m.1, .int .i64 m.2.1, .int .i64 m.2.2.1, .int .i64 m.2.2.2]) (.int .i64 1)).run Tryz.prog W = .ok (.int .i64 m.2.1) W := fun W => Tryz.index_mono m 1 (by decide) W
  have x2 : ∀ W, (Instr.index 44 (.agg #[.int .i64 m.1, .int .i64 m.2.1, .int .i64 m.2.2.1, .int .i64 m.2.2.2]) (.int .i64 2)).run Tryz.prog W = .ok (.int .i64 m.2.2.1) W := fun W => Tryz.index_mono m 2 (by decide) W
  have x3 : ∀ W, (Instr.index 44 (.agg #[.int .i64 m.1, .int .i64 m.2.1, .int .i64 m.2.2.1, .int .i64 m.2.2.2]) (.int .i64 3)).run Tryz.prog W = .ok (.int .i64 m.2.2.2) W := fun W => Tryz.index_mono m 3 (by decide) W
  unfold moV at *
  generalize vld m = v at *
  generalize m.1 = m0 at *
  generalize m.2.1 = m1 at *
  generalize m.2.2.1 = m2 at *
  generalize m.2.2.2 = m3 at *
  go_enter Tryz.func55, Tryz.ntmps55
  go_wp2
  generalize w.alloc (.cells #[.int .i64 m0, .int .i64 m1, .int .i64 m2, .int .i64 m3] 44) = W at *
  go_loopg [4, 6] 4 (fun gn _ i wr => ∃ (k : Nat) (z : Int), k ≤ 4 ∧ z = k ∧ gn = 4 - k ∧ i = .int .i64 z ∧ vldTo m k = true ∧ W = wr)
  case atStart => exact ⟨0, 0, by omega, rfl, rfl, rfl, rfl, rfl⟩
  case round =>
    obtain ⟨k, z, hk, hz, hgk, rfl, hv, rfl⟩ := hrel
    have HG := Lib.hid hgk; clear hgk
    have HV := Lib.hid hv; clear hv
    by_cases hlt : k < 4
    · by_cases hx : gt m k < 0
      · have HE := Lib.hid (HB.out k hlt hx)
        have HX := Lib.hid hx
        clear hx
        rcases (by omega : k = 0 ∨ k = 1 ∨ k = 2 ∨ k = 3) with rfl | rfl | rfl | rfl
        · have hx := HX.out
          rw [HGT.out.1] at hx
          obtain rfl : z = 0 := hz
          clear HB HO
          go_wp2
          go_ret
          exact ⟨by rw [HE.out]; rfl, hl⟩
        · have hx := HX.out
          rw [HGT.out.2.1] at hx
          obtain rfl : z = 1 := hz
          clear HB HO
          go_wp2
          go_ret
          exact ⟨by rw [HE.out]; rfl, hl⟩
        · have hx := HX.out
          rw [HGT.out.2.2.1] at hx
          obtain rfl : z = 2 := hz
          clear HB HO
          go_wp2
          go_ret
          exact ⟨by rw [HE.out]; rfl, hl⟩
        · have hx := HX.out
          rw [HGT.out.2.2.2] at hx
          obtain rfl : z = 3 := hz
          clear HB HO
          go_wp2
          go_ret
          exact ⟨by rw [HE.out]; rfl, hl⟩
      · have HE := Lib.hid (HO.out k HV.out (by omega))
        have HX := Lib.hid hx
        clear hx
        rcases (by omega : k = 0 ∨ k = 1 ∨ k = 2 ∨ k = 3) with rfl | rfl | rfl | rfl
        · have hx := HX.out
          rw [HGT.out.1] at hx
          obtain rfl : z = 0 := hz
          clear HB HO
          go_wp2
          go_roundg 3
          case rel => exact ⟨1, 1, by omega, rfl, rfl, rfl, HE.out, rfl⟩
          case measure => have := HG.out; omega
        · have hx := HX.out
          rw [HGT.out.2.1] at hx
          obtain rfl : z = 1 := hz
          clear HB HO
          go_wp2
          go_roundg 2
          case rel => exact ⟨2, 2, by omega, rfl, rfl, rfl, HE.out, rfl⟩
          case measure => have := HG.out; omega
        · have hx := HX.out
          rw [HGT.out.2.2.1] at hx
          obtain rfl : z = 2 := hz
          clear HB HO
          go_wp2
          go_roundg 1
          case rel => exact ⟨3, 3, by omega, rfl, rfl, rfl, HE.out, rfl⟩
          case measure => have := HG.out; omega
        · have hx := HX.out
          rw [HGT.out.2.2.2] at hx
          obtain rfl : z = 3 := hz
          clear HB HO
          go_wp2
          go_roundg 0
          case rel => exact ⟨4, 4, by omega, rfl, rfl, rfl, HE.out, rfl⟩
          case measure => have := HG.out; omega
    · obtain rfl : k = 4 := by omega
      obtain rfl : z = 4 := hz
      go_wp2
      go_ret
      exact ⟨by rw [← HF.out, HV.out]; rfl, hl⟩
end Go.Proofs.YtpbapoanjkekmaaGreat
