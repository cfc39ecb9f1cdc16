/- Contracts of sparse.Const, Var. -/
import Derived.RangeFuncNested
import Derived.RangeFuncBound
import Derived.RangeFuncCalls
import Derived.RangeFuncLeaves
import Derived.Shelf.Abstract
import Derived.Shelf.RegionOpen
import Derived.OwnWalkIn
import Derived.TacticsInMore
import Derived.LoopNIn
import Derived.LoopIn
import Derived.Test.YtpbapoanjkekmaaGreatH5
namespace Go.Proofs.YtpbapoanjkekmaaGreat
open Go.RowKit
attribute [local go_sem ↓] Go.wp_at_zero Go.wp_at_succ

/-- one term in a new row -/
theorem PGood.one {X : World} {base : Nat} (hb : base ≤ X.heap.size) (z : Int) (hz : z ≠ 0) (A : Option Addr) (c : Nat) (m : Mo) (hv : vld m = true) (E : Int) (hE : MB E m) (hn : NatB X A (dig z.natAbs)) (hc : (dig z.natAbs).length ≤ c) (o : Array Value) (ho : o = (mkP z A c m).cells.toArray) :
    PGood (X.alloc (.cells o 56)) base (.slice (some ⟨X.heap.size, 0, none⟩) 1 1) [mkP z A c m] (Go.Proofs.YtpbapoanjkekmaaGreat.cf [(z, m)]) 1 E z.natAbs := by
  subst ho
  have hba : Below X.heap.size X (X.alloc (.cells (mkP z A c m).cells.toArray 56)) := (Below.refl _ X).alloc (Nat.le_refl _) _
  refine ⟨⟨⟨by simp [PT.cells], .inr ⟨X.heap.size, 1, (mkP z A c m).cells.toArray, rfl, hb, Blk.new X _ _, Nat.le_refl _, by decide, rfl, by simp [PT.cells]⟩⟩, fun p hp => ?_, fun p hp => ?_⟩, ⟨fun t ht => ?_, fun t ht => ?_, by simp⟩, fun x => ?_, by simp, fun p hp => ?_, ?_⟩
  · simp at hp; subst hp; exact ⟨hn.old hba, hc⟩
  · simp at hp; subst hp; exact mkP_cn _ _ _ _
  · simp [mkP_tm] at ht; subst ht; exact hz
  · simp [mkP_tm] at ht; subst ht; exact hv
  · simp [mkP_tm]
  · simp at hp; subst hp; exact hE
  · simp [mkP_tm, nrm]
theorem PGood.none (w : World) (base : Nat) (F : Mo → Int) (hF : ∀ m, F m = 0) (N : Nat) (E : Int) (M : Nat) : PGood w base (.slice none 0 0) [] F N E M :=
  ⟨POwn.nil w base, Canon.nil, fun m => by rw [hF]; rfl, Nat.zero_le _, fun _ h => by simp at h, Nat.zero_le _⟩

set_option maxHeartbeats 1000000 in
set_option maxRecDepth 100000 in
theorem Const_any (ng : Bool) (A : Option Addr) (c B : Nat) (ds : List Nat) (w : World) (hB : B ≤ w.heap.size) (h : NatIn w B A c ds) (hm : ds.length ≤ 1000000) :
    Calls Tryz.prog 18 #[.agg #[.bool ng, .slice A ds.length c]] w (PRes (cf [(ival ng ds, (0, 0, 0, 0))]) 1 0 (ival ng ds).natAbs w) := by
  have hbx : Below w.heap.size w (w.alloc (.cells #[.bool ng, .slice A ds.length c] 31)) := (Below.refl _ _).alloc (Nat.le_refl _) _
  have HS := Lib.hid (fun (W : World) (hW : Below w.heap.size w W) => Sign_any ng A c B ds W (Nat.le_trans hB hW.size) (h.below (hW.mono hB)) hm)
  have HN := Lib.hid (fun (W : World) (hW : Below w.heap.size w W) => INormal_any ng A c B ds W (Nat.le_trans hB hW.size) (h.below (hW.mono hB)) hm)
  have HX := Lib.hid (boxes2 w 31 31 #[.bool ng, .slice A ds.length c] #[.bool ng, .slice A ds.length c])
  have HBX := Lib.hid hbx
  unfold IntRes at HN
  clear h hbx
  by_cases hz : ival ng ds = 0
  · have HZ := Lib.hid hz
    have hs0 : sgnOf (ival ng ds) = 0 := by rw [hz]; rfl
    rw [hs0] at HS
    clear hz hs0
    generalize ival ng ds = z at *
    go_enter Tryz.func18, Tryz.ntmps18
    go_wp2_with fail
    refine (HS.out _ HBX.out).mono ?_
    rintro e w1 ⟨rfl, rfl⟩
    go_wp2_with fail
    go_ret
    exact ⟨none, 0, [], rfl, PGood.none _ _ _ (fun m => by rw [HZ.out, cf_cons]; simp [cf_nil]) _ _ _, HX.out.1⟩
  · have HZ := Lib.hid hz
    have hs0 : (sgnOf (ival ng ds) == 0) = false := by unfold sgnOf; split <;> simp
    generalize sgnOf (ival ng ds) = sg at *
    clear hz
    generalize ival ng ds = z at *
    go_enter Tryz.func18, Tryz.ntmps18
    go_wp2_with fail
    refine (HS.out _ HBX.out).mono ?_
    rintro e w1 ⟨rfl, rfl⟩
    obtain ⟨hx0, k0, k1, hs⟩ := HX.out
    clear HX hs HBX
    generalize (w.alloc (.cells #[.bool ng, .slice A ds.length c] 31)).alloc (.cells #[.bool ng, .slice A ds.length c] 31) = X at *
    have d0 : X.cell? ⟨w.heap.size, 0, none⟩ = some (.bool ng) := k0.cell 0
    have d1 : X.cell? ⟨w.heap.size, 1, none⟩ = some (.slice A ds.length c) := k0.cell 1
    go_wp2_with fail
    refine (HN.out _ hx0).mono ?_
    rintro e w2 ⟨A3, c3, rfl, h3, h4, h5⟩
    clear d0 d1
    have hb2 := hx0.trans (h5.mono hx0.size)
    go_wp2_with fail
    go_ret
    exact ⟨_, 1, [mkP z A3 c3 (0, 0, 0, 0)], rfl, PGood.one hb2.size z HZ.out A3 c3 (0, 0, 0, 0) rfl 0 (by unfold MB; simp) h4 h3 _ rfl, hb2.alloc hb2.size _⟩

theorem lvl_any (l : Int) (w : World) : Calls Tryz.prog 47 #[.int .i64 l] w fun e w' => e = .returned (.bool (decide (1 ≤ l) && decide (l ≤ 4))) ∧ w = w' := by
  by_cases h1 : 1 ≤ l
  · by_cases h2 : l ≤ 4
    · go_enter Tryz.func47, Tryz.ntmps47
      go_wp2
      go_ret
      exact ⟨by simp [h1, h2], rfl⟩
    · go_enter Tryz.func47, Tryz.ntmps47
      go_wp2
      go_ret
      exact ⟨by rw [decide_eq_false (show ¬ l ≤ 4 by omega)]; rfl, rfl⟩
  · go_enter Tryz.func47, Tryz.ntmps47
    go_wp2
    go_ret
    exact ⟨by rw [decide_eq_false (show ¬ (1 : Int) ≤ l by omega)]; rfl, rfl⟩
/-- the monomial of a variable -/
def xM (l : Int) : Mo := (if l = 1 then 1 else 0, if l = 2 then 1 else 0, if l = 3 then 1 else 0, if l = 4 then 1 else 0)
theorem Var_out (l : Int) (w : World) (h : ¬ (1 ≤ l ∧ l ≤ 4)) : Calls Tryz.prog 26 #[.int .i64 l] w fun e w' => e = .returned (.slice none 0 0) ∧ w = w' := by
  have hl : (decide (1 ≤ l) && decide (l ≤ 4)) = false := by
    by_cases h1 : 1 ≤ l
    · rw [decide_eq_false (show ¬ l ≤ 4 by omega), Bool.and_false]
    · rw [decide_eq_false h1]; rfl
  have hc := lvl_any l w
  rw [hl] at hc
  have HC := Lib.hid hc
  clear hc hl h
  go_enter Tryz.func26, Tryz.ntmps26
  go_wp2_with fail
  refine HC.out.mono ?_
  rintro e w1 ⟨rfl, rfl⟩
  go_wp2_with fail
  go_ret
  exact ⟨rfl, rfl⟩

set_option maxHeartbeats 1000000 in
set_option maxRecDepth 100000 in
theorem Var_1 (w : World) : Calls Tryz.prog 26 #[.int .i64 1] w (PRes (cf [(1, (1, 0, 0, 0))]) 1 1 1 w) := by
  have HC := Lib.hid (lvl_any 1 w)
  have ho := fun (W : World) => IOf_any 1 (by omega) (by omega) W
  unfold IntRes at ho
  generalize hd : dig (Int.natAbs 1) = d1 at ho
  generalize hn : decide ((1 : Int) < 0) = n1 at ho
  have HO := Lib.hid ho; have HD := Lib.hid hd; have HN := Lib.hid hn
  have HK := Lib.hid (Blk.new w 44 #[.int .i64 1, .int .i64 0, .int .i64 0, .int .i64 0]); have HB := Lib.hid ((Below.refl w.heap.size w).alloc (Nat.le_refl _) (.cells #[.int .i64 1, .int .i64 0, .int .i64 0, .int .i64 0] 44))
  clear ho hd hn
  go_enter Tryz.func26, Tryz.ntmps26
  go_wp2_with fail
  refine HC.out.mono ?_
  rintro e w1 ⟨rfl, rfl⟩
  go_wp2_with fail
  obtain hk := HK.out
  obtain hb := HB.out
  clear HK HB
  generalize w.alloc (.cells #[.int .i64 1, .int .i64 0, .int .i64 0, .int .i64 0] 44) = X at *
  have c0 : X.cell? ⟨w.heap.size, 0, none⟩ = some (.int .i64 1) := hk.cell 0
  have c1 : X.cell? ⟨w.heap.size, 1, none⟩ = some (.int .i64 0) := hk.cell 1
  have c2 : X.cell? ⟨w.heap.size, 2, none⟩ = some (.int .i64 0) := hk.cell 2
  have c3 : X.cell? ⟨w.heap.size, 3, none⟩ = some (.int .i64 0) := hk.cell 3
  have lx := hk.lt
  have hb' : Below w.heap.size w X.drew := hb.trans ((Drawn.drew _).below _)
  go_region_held3 (fun w' => w'.cell? ⟨w.heap.size, 0, none⟩ = some (.int .i64 1) ∧ w'.cell? ⟨w.heap.size, 1, none⟩ = some (.int .i64 0) ∧ w'.cell? ⟨w.heap.size, 2, none⟩ = some (.int .i64 0) ∧ w'.cell? ⟨w.heap.size, 3, none⟩ = some (.int .i64 0))
    (first | exact ⟨c0, c1, c2, c3⟩ | exact ⟨(h5.cell lx).trans c0, (h5.cell lx).trans c1, (h5.cell lx).trans c2, (h5.cell lx).trans c3⟩ | exact ⟨(hz.cell lx).trans c0, (hz.cell lx).trans c1, (hz.cell lx).trans c2, (hz.cell lx).trans c3⟩)
    (first | (go_at_call 19; refine (HO.out _).mono ?_; rintro e w2 ⟨A3, c3', rfl, h3, h4, h5⟩; have hz := h5.alloc h5.size (.cells #[.bool n1, .slice A3 d1.length c3', .int .i64 1, .int .i64 0, .int .i64 0, .int .i64 0] 56)))
  clear c0 c1 c2 c3
  have hb2 := hb'.trans (h5.mono hb'.size)
  go_wp2_with fail
  go_ret
  exact ⟨_, 1, [mkP 1 A3 c3' (1, 0, 0, 0)], rfl, PGood.one hb2.size 1 (by decide) A3 c3' (1, 0, 0, 0) rfl 1 (by unfold MB; simp) (by rw [HD.out]; exact h4) (by rw [HD.out]; exact h3) _ (by rw [← HD.out, ← HN.out]; rfl), hb2.alloc hb2.size _⟩

set_option maxHeartbeats 1000000 in
set_option maxRecDepth 100000 in
theorem Var_2 (w : World) : Calls Tryz.prog 26 #[.int .i64 2] w (PRes (cf [(1, (0, 1, 0, 0))]) 1 1 1 w) := by
  have HC := Lib.hid (lvl_any 2 w)
  have ho := fun (W : World) => IOf_any 1 (by omega) (by omega) W
  unfold IntRes at ho
  generalize hd : dig (Int.natAbs 1) = d1 at ho
  generalize hn : decide ((1 : Int) < 0) = n1 at ho
  have HO := Lib.hid ho; have HD := Lib.hid hd; have HN := Lib.hid hn
  have HK := Lib.hid (Blk.new w 44 #[.int .i64 0, .int .i64 1, .int .i64 0, .int .i64 0]); have HB := Lib.hid ((Below.refl w.heap.size w).alloc (Nat.le_refl _) (.cells #[.int .i64 0, .int .i64 1, .int .i64 0, .int .i64 0] 44))
  clear ho hd hn
  go_enter Tryz.func26, Tryz.ntmps26
  go_wp2_with fail
  refine HC.out.mono ?_
  rintro e w1 ⟨rfl, rfl⟩
  go_wp2_with fail
  obtain hk := HK.out
  obtain hb := HB.out
  clear HK HB
  generalize w.alloc (.cells #[.int .i64 0, .int .i64 1, .int .i64 0, .int .i64 0] 44) = X at *
  have c0 : X.cell? ⟨w.heap.size, 0, none⟩ = some (.int .i64 0) := hk.cell 0
  have c1 : X.cell? ⟨w.heap.size, 1, none⟩ = some (.int .i64 1) := hk.cell 1
  have c2 : X.cell? ⟨w.heap.size, 2, none⟩ = some (.int .i64 0) := hk.cell 2
  have c3 : X.cell? ⟨w.heap.size, 3, none⟩ = some (.int .i64 0) := hk.cell 3
  have lx := hk.lt
  have hb' : Below w.heap.size w X.drew := hb.trans ((Drawn.drew _).below _)
  go_region_held3 (fun w' => w'.cell? ⟨w.heap.size, 0, none⟩ = some (.int .i64 0) ∧ w'.cell? ⟨w.heap.size, 1, none⟩ = some (.int .i64 1) ∧ w'.cell? ⟨w.heap.size, 2, none⟩ = some (.int .i64 0) ∧ w'.cell? ⟨w.heap.size, 3, none⟩ = some (.int .i64 0))
    (first | exact ⟨c0, c1, c2, c3⟩ | exact ⟨(h5.cell lx).trans c0, (h5.cell lx).trans c1, (h5.cell lx).trans c2, (h5.cell lx).trans c3⟩ | exact ⟨(hz.cell lx).trans c0, (hz.cell lx).trans c1, (hz.cell lx).trans c2, (hz.cell lx).trans c3⟩)
    (first | (go_at_call 19; refine (HO.out _).mono ?_; rintro e w2 ⟨A3, c3', rfl, h3, h4, h5⟩; have hz := h5.alloc h5.size (.cells #[.bool n1, .slice A3 d1.length c3', .int .i64 0, .int .i64 1, .int .i64 0, .int .i64 0] 56)))
  clear c0 c1 c2 c3
  have hb2 := hb'.trans (h5.mono hb'.size)
  go_wp2_with fail
  go_ret
  exact ⟨_, 1, [mkP 1 A3 c3' (0, 1, 0, 0)], rfl, PGood.one hb2.size 1 (by decide) A3 c3' (0, 1, 0, 0) rfl 1 (by unfold MB; simp) (by rw [HD.out]; exact h4) (by rw [HD.out]; exact h3) _ (by rw [← HD.out, ← HN.out]; rfl), hb2.alloc hb2.size _⟩

set_option maxHeartbeats 1000000 in
set_option maxRecDepth 100000 in
theorem Var_3 (w : World) : Calls Tryz.prog 26 #[.int .i64 3] w (PRes (cf [(1, (0, 0, 1, 0))]) 1 1 1 w) := by
  have HC := Lib.hid (lvl_any 3 w)
  have ho := fun (W : World) => IOf_any 1 (by omega) (by omega) W
  unfold IntRes at ho
  generalize hd : dig (Int.natAbs 1) = d1 at ho
  generalize hn : decide ((1 : Int) < 0) = n1 at ho
  have HO := Lib.hid ho; have HD := Lib.hid hd; have HN := Lib.hid hn
  have HK := Lib.hid (Blk.new w 44 #[.int .i64 0, .int .i64 0, .int .i64 1, .int .i64 0]); have HB := Lib.hid ((Below.refl w.heap.size w).alloc (Nat.le_refl _) (.cells #[.int .i64 0, .int .i64 0, .int .i64 1, .int .i64 0] 44))
  clear ho hd hn
  go_enter Tryz.func26, Tryz.ntmps26
  go_wp2_with fail
  refine HC.out.mono ?_
  rintro e w1 ⟨rfl, rfl⟩
  go_wp2_with fail
  obtain hk := HK.out
  obtain hb := HB.out
  clear HK HB
  generalize w.alloc (.cells #[.int .i64 0, .int .i64 0, .int .i64 1, .int .i64 0] 44) = X at *
  have c0 : X.cell? ⟨w.heap.size, 0, none⟩ = some (.int .i64 0) := hk.cell 0
  have c1 : X.cell? ⟨w.heap.size, 1, none⟩ = some (.int .i64 0) := hk.cell 1
  have c2 : X.cell? ⟨w.heap.size, 2, none⟩ = some (.int .i64 1) := hk.cell 2
  have c3 : X.cell? ⟨w.heap.size, 3, none⟩ = some (.int .i64 0) := hk.cell 3
  have lx := hk.lt
  have hb' : Below w.heap.size w X.drew := hb.trans ((Drawn.drew _).below _)
  go_region_held3 (fun w' => w'.cell? ⟨w.heap.size, 0, none⟩ = some (.int .i64 0) ∧ w'.cell? ⟨w.heap.size, 1, none⟩ = some (.int .i64 0) ∧ w'.cell? ⟨w.heap.size, 2, none⟩ = some (.int .i64 1) ∧ w'.cell? ⟨w.heap.size, 3, none⟩ = some (.int .i64 0))
    (first | exact ⟨c0, c1, c2, c3⟩ | exact ⟨(h5.cell lx).trans c0, (h5.cell lx).trans c1, (h5.cell lx).trans c2, (h5.cell lx).trans c3⟩ | exact ⟨(hz.cell lx).trans c0, (hz.cell lx).trans c1, (hz.cell lx).trans c2, (hz.cell lx).trans c3⟩)
    (first | (go_at_call 19; refine (HO.out _).mono ?_; rintro e w2 ⟨A3, c3', rfl, h3, h4, h5⟩; have hz := h5.alloc h5.size (.cells #[.bool n1, .slice A3 d1.length c3', .int .i64 0, .int .i64 0, .int .i64 1, .int .i64 0] 56)))
  clear c0 c1 c2 c3
  have hb2 := hb'.trans (h5.mono hb'.size)
  go_wp2_with fail
  go_ret
  exact ⟨_, 1, [mkP 1 A3 c3' (0, 0, 1, 0)], rfl, PGood.one hb2.size 1 (by decide) A3 c3' (0, 0, 1, 0) rfl 1 (by unfold MB; simp) (by rw [HD.out]; exact h4) (by rw [HD.out]; exact h3) _ (by rw [← HD.out, ← HN.out]; rfl), hb2.alloc hb2.size _⟩

set_option maxHeartbeats 1000000 in
set_option maxRecDepth 100000 in
theorem Var_4 (w : World) : Calls Tryz.prog 26 #[.int .i64 4] w (PRes (cf [(1, (0, 0, 0, 1))]) 1 1 1 w) := by
  have HC := Lib.hid (lvl_any 4 w)
  have ho := fun (W : World) => IOf_any 1 (by omega) (by omega) W
  unfold IntRes at ho
  generalize hd : dig (Int.natAbs 1) = d1 at ho
  generalize hn : decide ((1 : Int) < 0) = n1 at ho
  have HO := Lib.hid ho; have HD := Lib.hid hd; have HN := Lib.hid hn
  have HK := Lib.hid (Blk.new w 44 #[.int .i64 0, .int .i64 0, .int .i64 0, .int .i64 1]); have HB := Lib.hid ((Below.refl w.heap.size w).alloc (Nat.le_refl _) (.cells #[.int .i64 0, .int .i64 0, .int .i64 0, .int .i64 1] 44))
  clear ho hd hn
  go_enter Tryz.func26, Tryz.ntmps26
  go_wp2_with fail
  refine HC.out.mono ?_
  rintro e w1 ⟨rfl, rfl⟩
  go_wp2_with fail
  obtain hk := HK.out
  obtain hb := HB.out
  clear HK HB
  generalize w.alloc (.cells #[.int .i64 0, .int .i64 0, .int .i64 0, .int .i64 1] 44) = X at *
  have c0 : X.cell? ⟨w.heap.size, 0, none⟩ = some (.int .i64 0) := hk.cell 0
  have c1 : X.cell? ⟨w.heap.size, 1, none⟩ = some (.int .i64 0) := hk.cell 1
  have c2 : X.cell? ⟨w.heap.size, 2, none⟩ = some (.int .i64 0) := hk.cell 2
  have c3 : X.cell? ⟨w.heap.size, 3, none⟩ = some (.int .i64 1) := hk.cell 3
  have lx := hk.lt
  have hb' : Below w.heap.size w X.drew := hb.trans ((Drawn.drew _).below _)
  go_region_held3 (fun w' => w'.cell? ⟨w.heap.size, 0, none⟩ = some (.int .i64 0) ∧ w'.cell? ⟨w.heap.size, 1, none⟩ = some (.int .i64 0) ∧ w'.cell? ⟨w.heap.size, 2, none⟩ = some (.int .i64 0) ∧ w'.cell? ⟨w.heap.size, 3, none⟩ = some (.int .i64 1))
    (first | exact ⟨c0, c1, c2, c3⟩ | exact ⟨(h5.cell lx).trans c0, (h5.cell lx).trans c1, (h5.cell lx).trans c2, (h5.cell lx).trans c3⟩ | exact ⟨(hz.cell lx).trans c0, (hz.cell lx).trans c1, (hz.cell lx).trans c2, (hz.cell lx).trans c3⟩)
    (first | (go_at_call 19; refine (HO.out _).mono ?_; rintro e w2 ⟨A3, c3', rfl, h3, h4, h5⟩; have hz := h5.alloc h5.size (.cells #[.bool n1, .slice A3 d1.length c3', .int .i64 0, .int .i64 0, .int .i64 0, .int .i64 1] 56)))
  clear c0 c1 c2 c3
  have hb2 := hb'.trans (h5.mono hb'.size)
  go_wp2_with fail
  go_ret
  exact ⟨_, 1, [mkP 1 A3 c3' (0, 0, 0, 1)], rfl, PGood.one hb2.size 1 (by decide) A3 c3' (0, 0, 0, 1) rfl 1 (by unfold MB; simp) (by rw [HD.out]; exact h4) (by rw [HD.out]; exact h3) _ (by rw [← HD.out, ← HN.out]; rfl), hb2.alloc hb2.size _⟩
end Go.Proofs.YtpbapoanjkekmaaGreat

/- Contract of sparse.Pow at the exponent 2. -/
namespace Go.Proofs.YtpbapoanjkekmaaGreat
open Go.RowKit

def oneL : List Tm := [(1, (0, 0, 0, 0))]
theorem addM_zero (b : Mo) : addM (0, 0, 0, 0) b = b := by simp [addM]
theorem mulC_one (p : List Tm) (m : Mo) : mulC oneL p m = cf p m := by
  unfold mulC mulW oneL cf
  simp only [lin, addM_zero]
  rw [if_pos (by rfl)]
  omega
theorem mulC_good {ps qs : List PT} {P Q : List Tm} {W W' : World} {b b' N N' M M' : Nat} {E E' : Int} {v v' : Value} (h : PGood W b v ps (cf P) N E M) (h' : PGood W' b' v' qs (cf Q) N' E' M') (m : Mo) : mulC (ps.map PT.tm) (qs.map PT.tm) m = mulC P Q m := mulC_ext h.cf h'.cf m
theorem pw_one {k : Nat} (h : 0 < k) : 1 < pw k := Nat.one_lt_pow (by omega) (by omega)

set_option maxHeartbeats 4000000 in
set_option maxRecDepth 100000 in
theorem Pow_two (A : Option Addr) (c B N : Nat) (E : Int) (M : Nat) (ps : List PT) (w : World) (hB : B ≤ w.heap.size) (h : PIn w B A ps N E M) (hN : N ≤ 200) (hE0 : 0 ≤ E) (hE : E ≤ 1000) (hM : M < pw 47) (hMM : M * M < Big) :
    Calls Tryz.prog 16 #[.slice A ps.length c, .int .i64 2] w (PRes (mulC (ps.map PT.tm) (ps.map PT.tm)) (N * N) (E + E) (M * M) w) := by
  have hMB : M < Big := Nat.lt_trans hM (pw_lt (show 47 < 600 by decide))
  have ho := IOf_any 1 (by omega) (by omega) w
  unfold IntRes at ho
  have hone : ival (decide ((1 : Int) < 0)) (dig (Int.natAbs 1)) = 1 := ival_dig 1
  have hcn := fun (W : World) (A3 : Option Addr) (c3 : Nat) (hb : NatB W A3 (dig (Int.natAbs 1))) (hc : (dig (Int.natAbs 1)).length ≤ c3) => Const_any (decide ((1 : Int) < 0)) A3 c3 W.heap.size (dig (Int.natAbs 1)) W (Nat.le_refl _) (natB_nin hb hc) (Nat.le_trans (dig_len_pw (k := 1) (show Int.natAbs 1 < pw 1 by decide)) (by omega))
  rw [hone] at hcn
  have HNM := Lib.hid (fun (W : World) (hW : Below w.heap.size w W) => Normal_poly A c B N E M ps W (Nat.le_trans hB hW.size) (h.below (hW.mono hB)) (by omega) hMB)
  generalize hd : dig (Int.natAbs 1) = d1 at *
  generalize hn : decide ((1 : Int) < 0) = n1 at *
  have HO := Lib.hid ho; have HCN := Lib.hid hcn
  clear ho hcn hd hn hone h
  go_enter Tryz.func16, Tryz.ntmps16
  go_wp2_with fail
  refine HO.out.mono ?_
  rintro e w1 ⟨A1, c1, rfl, h1, h2, hb1⟩
  go_wp2_with fail
  refine (HCN.out w1 A1 c1 h2 h1).mono ?_
  rintro e w2 ⟨A2, c2, o2, rfl, hg2, hb2⟩
  have HG2 := Lib.hid hg2
  clear hg2
  have hbw2 := hb1.trans (hb2.mono hb1.size)
  go_wp2_with fail
  refine (HNM.out _ hbw2).mono ?_
  rintro e w3 ⟨A3, c3, p3, rfl, hg3, hb3⟩
  have HG3 := Lib.hid hg3
  have HG2' := Lib.hid (HG2.out.old hb3)
  have hbw3 := hbw2.trans (hb3.mono hbw2.size)
  clear hg3 HNM HCN HO HG2
  go_wp2_with fail
  go_loopg [6] 1 (fun gn hx wr => w3 = wr ∧ ((gn = 1 ∧ hx = .int .i64 1) ∨ (gn = 0 ∧ hx = .int .i64 2)))
  case atStart => exact ⟨rfl, .inl ⟨rfl, rfl⟩⟩
  case round =>
    obtain ⟨rfl, hst⟩ := hrel
    rcases hst with ⟨hg, rfl⟩ | ⟨hg, rfl⟩
    · have HG := Lib.hid hg; clear hg
      go_wp2_with fail
      go_roundg 0
      case rel => exact ⟨rfl, .inr ⟨rfl, rfl⟩⟩
      case measure => have := HG.out; omega
    · clear hg
      go_wp2_with fail
      have hp3 := HG3.out.pin (by omega) hMB
      have HP3 := Lib.hid hp3
      clear hp3
      go_loopg [5, 7] 2 (fun gn rv bt wr => Below w3.heap.size w3 wr ∧ ((gn = 2 ∧ bt = .int .i64 2 ∧ ∃ A' c' rs, rv = .slice A' rs.length c' ∧ PGood wr w.heap.size (.slice A' rs.length c') rs (cf oneL) 1 0 1) ∨
        (gn = 1 ∧ bt = .int .i64 1 ∧ ∃ A' c' rs, rv = .slice A' rs.length c' ∧ PGood wr w.heap.size (.slice A' rs.length c') rs (cf (ps.map PT.tm)) N E M) ∨
        (gn = 0 ∧ bt = .int .i64 0 ∧ ∃ A' c' rs, rv = .slice A' rs.length c' ∧ PGood wr w.heap.size (.slice A' rs.length c') rs (mulC (ps.map PT.tm) (ps.map PT.tm)) (N * N) (E + E) (M * M))))
      case atStart => exact ⟨Below.refl _ _, .inl ⟨rfl, rfl, A2, c2, o2, rfl, { HG2'.out with own := HG2'.out.own.mono hb1.size }⟩⟩
      case round =>
        obtain ⟨hbl, hst⟩ := hrel
        have hwl := Nat.le_trans hbw3.size hbl.size
        rcases hst with ⟨hg, rfl, A', c', rs, rfl, hgd⟩ | ⟨hg, rfl, A', c', rs, rfl, hgd⟩ | ⟨hg, rfl, A', c', rs, rfl, hgd⟩
        · have HG := Lib.hid hg; clear hg
          have hi := hgd.pin (by omega) (pw_one (k := 600) (by decide))
          have HM1 := Lib.hid (SMul_any A' A' c' c' wr.heap.size 1 1 0 0 1 1 rs rs wr (Nat.le_refl _) hi hi (by omega) (by omega) (by omega) (by omega) (by omega) (pw_one (by decide)) (pw_one (by decide)) (pw_one (k := 600) (by decide)))
          have HGD := Lib.hid hgd
          clear hgd hi
          go_wp2_with fail
          refine HM1.out.mono ?_
          rintro e w4 ⟨A4, c4, r4, rfl, hg4, hb4⟩
          have hi4 := hg4.pin (by omega) (pw_one (k := 600) (by decide))
          have hi3 := HP3.out.below (hbl.trans (hb4.mono hbl.size))
          have HM2 := Lib.hid (SMul_any A4 A3 c4 c3 w4.heap.size 1 N 0 E 1 M r4 p3 w4 (Nat.le_refl _) hi4 (hi3.more (Nat.le_trans hbl.size hb4.size)) (by omega) (by omega) (by omega) (by omega) (by omega) (pw_one (by decide)) (Nat.lt_trans hM (pw_lt (by decide))) (by rw [Nat.one_mul]; exact hMB))
          have HF := Lib.hid (fun m => show mulC (r4.map PT.tm) (p3.map PT.tm) m = cf (ps.map PT.tm) m by
            rw [mulC_ext (p' := oneL) (q' := ps.map PT.tm) (fun x => by rw [hg4.cf, mulC_good HGD.out HGD.out, mulC_one]) (fun x => HG3.out.cf x), mulC_one])
          clear hi4 hi3 hg4 HM1
          go_wp2_with fail
          refine HM2.out.mono ?_
          rintro e w5 ⟨A5, c5, r5, rfl, hg5, hb5⟩
          have hg5' : PGood w5 w.heap.size (.slice A5 r5.length c5) r5 (cf (ps.map PT.tm)) N E M := { hg5 with own := hg5.own.mono (Nat.le_trans hwl hb4.size), cf := fun m => (hg5.cf m).trans (HF.out m), len := by have := hg5.len; omega, mb := fun p hp => (hg5.mb p hp).mono (by omega), nm := by have := hg5.nm; omega }
          have hb5' := (hbl.trans (hb4.mono hbl.size)).trans (hb5.mono (Nat.le_trans hbl.size hb4.size))
          clear hg5
          go_wp2_with fail
          go_roundg 1
          case rel => exact ⟨hb5', .inr (.inl ⟨rfl, rfl, A5, c5, r5, rfl, hg5'⟩)⟩
          case measure => have := HG.out; omega
        · have HG := Lib.hid hg; clear hg
          have hi := hgd.pin (by omega) hMB
          have hNN : N * N ≤ 50000 := Nat.le_trans (Nat.mul_le_mul hN hN) (by omega)
          have HM1 := Lib.hid (SMul_any A' A' c' c' wr.heap.size N N E E M M rs rs wr (Nat.le_refl _) hi hi (by omega) (by omega) hNN (by omega) (by omega) hM (Nat.lt_trans hM (pw_lt (by decide))) hMM)
          have HGD := Lib.hid hgd
          clear hgd hi
          go_wp2_with fail
          refine HM1.out.mono ?_
          rintro e w4 ⟨A4, c4, r4, rfl, hg4, hb4⟩
          have hg4' : PGood w4 w.heap.size (.slice A4 r4.length c4) r4 (mulC (ps.map PT.tm) (ps.map PT.tm)) (N * N) (E + E) (M * M) := { hg4 with own := hg4.own.mono hwl, cf := fun m => (hg4.cf m).trans (mulC_good HGD.out HGD.out m) }
          have hb4' := hbl.trans (hb4.mono hbl.size)
          clear hg4
          go_wp2_with fail
          go_roundg 0
          case rel => exact ⟨hb4', .inr (.inr ⟨rfl, rfl, A4, c4, r4, rfl, hg4'⟩)⟩
          case measure => have := HG.out; omega
        · clear hg
          have HGD := Lib.hid hgd
          clear hgd
          go_wp2_with fail
          go_ret
          exact ⟨A', c', rs, rfl, HGD.out, hbw3.trans (hbl.mono hbw3.size)⟩
end Go.Proofs.YtpbapoanjkekmaaGreat

/- Contracts of sparse.Terms and of the function that it hands back. -/
namespace Go.Proofs.YtpbapoanjkekmaaGreat
open Go.RowKit Go.Shelf
attribute [local go_sem] Oper.semAt_some

/-- what Terms hands back: the canonical form in a box -/
def TermsRes (F : Mo → Int) (N : Nat) (E : Int) (M : Nat) (w : World) (e : Ending) (w' : World) : Prop :=
  ∃ b A c ps, e = .returned (.func (.func 53) #[] #[.pointer (some ⟨b, 0, none⟩)]) ∧ Blk w' b 23 #[.slice A ps.length c] ∧ w.heap.size ≤ b ∧ PGood w' w.heap.size (.slice A ps.length c) ps F N E M ∧ Below w.heap.size w w'
set_option maxHeartbeats 1000000 in
theorem Terms_any (A : Option Addr) (c B N : Nat) (E : Int) (M : Nat) (ps : List PT) (w : World) (hB : B ≤ w.heap.size) (h : PIn w B A ps N E M) (hN : N ≤ 50000) (hM : M < Big) :
    Calls Tryz.prog 30 #[.slice A ps.length c] w (TermsRes (cf (ps.map PT.tm)) N E M w) := by
  have HN := Lib.hid (Normal_poly A c B N E M ps w hB h hN hM)
  clear h
  go_enter Tryz.func30, Tryz.ntmps30
  go_wp2_with fail
  refine HN.out.mono ?_
  rintro e w1 ⟨A1, c1, qs, rfl, hg, hb⟩
  have HG := Lib.hid hg
  clear hg
  go_wp2_with fail
  go_ret
  have hba := (Below.refl w1.heap.size w1).alloc (Nat.le_refl _) (.cells #[.slice A1 qs.length c1] 23)
  exact ⟨_, A1, c1, qs, rfl, Blk.new w1 _ _, hb.size, HG.out.old hba, hb.alloc hb.size _⟩

/-- what yield is handed -/
def yargs (x : PT) : Array Value := #[.agg (moV x.m), .agg #[.bool x.ng, .slice x.A x.ds.length x.c]]

/-- what a round must keep: the canonical form in its box -/
def KT (Bs base : Nat) (v : Value) (ps : List PT) (W W' : World) : Prop := (POwn W base v ps → POwn W' base v ps) ∧ (Blk W Bs 23 #[v] → Blk W' Bs 23 #[v]) ∧ W.heap.size ≤ W'.heap.size
theorem KT.trans {Bs base : Nat} {v : Value} {ps : List PT} {A B C : World} (h : KT Bs base v ps A B) (k : KT Bs base v ps B C) : KT Bs base v ps A C := ⟨fun x => k.1 (h.1 x), fun x => k.2.1 (h.2.1 x), Nat.le_trans h.2.2 k.2.2⟩
theorem KT.old {Bs base : Nat} {v : Value} {ps : List PT} {W W' : World} (h : Below W.heap.size W W') : KT Bs base v ps W W' := ⟨fun x => x.old h, fun x => x.old h, h.size⟩
theorem POwn.keep {W W' : World} {base : Nat} {v : Value} {ps : List PT} (h : POwn W base v ps) (hk : ∀ g t cs, Blk W g t cs → (t = 56 ∨ t = 82) → Blk W' g t cs) : POwn W' base v ps := by
  refine ⟨⟨h.row.1, h.row.2.imp id ?_⟩, fun p hp => ⟨(h.dg p hp).1.keep fun g cs hb => hk g _ cs hb (.inr rfl), (h.dg p hp).2⟩, h.cn⟩
  rintro ⟨g, cap, cur, h1, h2, h3, h4⟩
  exact ⟨g, cap, cur, h1, h2, hk g _ cur h3 (.inl rfl), h4⟩
theorem Blk.ne_t {W : World} {g g' : Nat} {t t' : TypeId} {cs cs' : Array Value} (h : Blk W g t cs) (h' : Blk W g' t' cs') (hne : t ≠ t') : g ≠ g' := by
  rintro rfl
  unfold Blk at h h'
  rw [h] at h'
  injection h' with h'
  injection h' with _ e
  exact hne e
theorem KT.set {Bs base : Nat} {v : Value} {ps : List PT} {W : World} {g o : Nat} {t : TypeId} {cs : Array Value} (hb : Blk W g t cs) (h1 : t ≠ 56) (h2 : t ≠ 82) (h3 : t ≠ 23) (u : Value) : KT Bs base v ps W (W.setCell ⟨g, o, none⟩ u) :=
  ⟨fun x => x.keep fun g' t' cs' hb' ht => hb'.far (hb'.ne_t hb (by rcases ht with rfl | rfl <;> exact fun e => by first | exact h1 e.symm | exact h2 e.symm)) u, fun x => x.far (x.ne_t hb (Ne.symm h3)) u, by simp⟩
theorem KT.put {Bs base : Nat} {v : Value} {ps : List PT} {W : World} {l : Nat} {o : Obj} (o' : Obj) (hl : W.heap[l]? = some o) (ho : o.isCells = false) : KT Bs base v ps W (W.putObj l o') := by
  have hk : ∀ g t cs, Blk W g t cs → Blk (W.putObj l o') g t cs := fun g t cs hb => by
    have hne : g ≠ l := by
      rintro rfl
      unfold Blk at hb
      rw [hb] at hl
      injection hl with hl
      subst hl
      cases ho
    exact (World.putObj_heap_other hne).trans hb
  exact ⟨fun x => x.keep fun g t cs hb _ => hk g t cs hb, fun x => hk _ _ _ x, by simp⟩

set_option maxRecDepth 100000 in
set_option maxHeartbeats 4000000 in
theorem Terms1_in (n : Nat) (hn : 1 ≤ n) (l Bs base : Nat) (A : Option Addr) (c : Nat) (ps : List PT) (W0 : World) (J Jx : List PT → World → Prop) (hJ : AbidesFrom W0.heap.size J) (hlen : ps.length ≤ 100000)
    (hY : ∀ pre x W, J pre W → NatIn W W.heap.size x.A x.c x.ds → Cn x → x.ds.length ≤ 1000 → pre.map PT.tm ++ [x.tm] = (ps.take (pre.length + 1)).map PT.tm → pre.length < ps.length → YieldAt Fence.wide (n - 1) Tryz.prog l (yargs x) W fun e W' =>
      (e = .returned (.bool true) ∧ J (pre ++ [x]) W' ∧ KT Bs base (.slice A ps.length c) ps W W') ∨ (e = .returned (.bool false) ∧ Jx (pre ++ [x]) W'))
    (hBs : Blk W0 Bs 23 #[.slice A ps.length c]) (hin : POwn W0 base (.slice A ps.length c) ps) (hdl : ∀ p ∈ ps, p.ds.length ≤ 1000) (h0 : J [] W0) :
    CallsIn Fence.wide n Tryz.prog 53 #[.func (.yield l) #[] #[], .pointer (some ⟨Bs, 0, none⟩)] W0 fun e W' => (∃ v, e = .returned v) ∧
      ((∃ ys, ys.map PT.tm = ps.map PT.tm ∧ J ys W') ∨ (∃ pre, (∃ k, pre.map PT.tm = (ps.take k).map PT.tm) ∧ Jx pre W')) := by
  refine callsIn_of_wp Tryz.func53 rfl trivial ?_ rfl
  simp only [Tryz.ntmps53, List.size_toArray, List.length_cons, List.length_nil, Nat.reduceAdd, Nat.reduceSub, Array.replicate_succ, Array.replicate_zero, List.push_toArray, List.append_toArray, List.nil_append, List.cons_append]
  have hBc : W0.cell? ⟨Bs, 0, none⟩ = some (.slice A ps.length c) := hBs.cell 0
  gi_wp2
  gi_loopw [4, 7] (fun _ i wr => ∃ (k : Nat) (pre : List PT), k ≤ ps.length ∧ i = .int .i64 k ∧ pre.length = k ∧ pre.map PT.tm = (ps.take k).map PT.tm ∧ J pre wr ∧ POwn wr base (.slice A ps.length c) ps ∧ W0.heap.size ≤ wr.heap.size) (fun _ i _ => ps.length - (intOf i).toNat)
  case atStart => exact ⟨0, [], Nat.zero_le _, rfl, rfl, rfl, h0, hin, Nat.le_refl _⟩
  case round =>
    obtain ⟨k, pre, hk, rfl, hpl, hpt, hJs, hown, hwl⟩ := hrel
    by_cases hlt : k < ps.length
    · obtain ⟨p, hp⟩ : ∃ p, ps[k]? = some p := ⟨_, List.getElem?_eq_getElem hlt⟩
      have hpm := List.mem_of_getElem? hp
      obtain ⟨b, o, rfl, hbb, d0, d1, d2, d3, d4, d5⟩ := hown.polyIn.at_ hp
      have i1 : (k : Int) < (ps.length : Int) := by omega
      have i0 : (0 : Int) ≤ (k : Int) := by omega
      have HIN := Lib.hid (hown.nin hpm)
      have HP := Lib.hid hp
      have HPL := Lib.hid hpl; have HPT := Lib.hid hpt; have HC := Lib.hid hown.cn; have HD := Lib.hid hdl
      clear hp hpl hpt hdl
      have hbk := (Below.refl wr.heap.size wr).alloc (Nat.le_refl _) (.cells p.cells.toArray 56)
      have HK := Lib.hid (Blk.new wr 56 p.cells.toArray)
      have HNN := Lib.hid (fun (W : World) (hW : Below wr.heap.size wr W) => INormal_any p.ng p.A p.c wr.heap.size p.ds W hW.size (HIN.out.below hW) (by have := HD.out p (List.mem_of_getElem? HP.out); omega))
      have HYY := Lib.hid (fun (W3 : World) (A3 : Option Addr) (c3 : Nat) (hW : Below wr.heap.size wr W3) (h4 : NatB W3 A3 (dig (ival p.ng p.ds).natAbs)) (h3 : (dig (ival p.ng p.ds).natAbs).length ≤ c3) =>
        show ∃ fn tmps assign body, (Instr.yield l #[.agg #[.int .i64 p.m.1, .int .i64 p.m.2.1, .int .i64 p.m.2.2.1, .int .i64 p.m.2.2.2], .agg #[.bool (decide (ival p.ng p.ds < 0)), .slice A3 (dig (ival p.ng p.ds).natAbs).length c3]]).run Tryz.prog W3 = .ok (.round l fn tmps assign body) W3 ∧
          RoundIn Fence.wide (n - 1) Tryz.prog l fn tmps assign body W3 (fun e W' => ∃ bb : Bool, e = .returned (.bool bb) ∧ ((bb = true ∧ J (pre ++ [mkP (ival p.ng p.ds) A3 c3 p.m]) W' ∧ KT Bs base (.slice (some ⟨b, o, none⟩) ps.length c) ps W3 W') ∨ (bb = false ∧ Jx (pre ++ [mkP (ival p.ng p.ds) A3 c3 p.m]) W'))) by
          have hJ3 : J pre W3 := hJ pre wr W3 none hJs ⟨hW.os, hW.tape, hW.output, hW.size, fun k hk _ => hW.block k hk⟩ (fun r e => by cases e)
          have hpm' := List.mem_of_getElem? HP.out
          have hdz : (dig (ival p.ng p.ds).natAbs).length ≤ 1000 := by
            have h1 := (HC.out p hpm').ds
            have h2 := HD.out p hpm'
            rw [h1] at h2
            exact h2
          obtain ⟨fn, tmps, assign, body, hy, hR⟩ := hY pre (mkP (ival p.ng p.ds) A3 c3 p.m) W3 hJ3 (natB_nin h4 h3) (mkP_cn _ _ _ _) hdz (by rw [mkP_tm, HPT.out, HPL.out, take_snoc_tm HP.out]; rfl) (by rw [HPL.out]; exact hlt)
          refine ⟨fn, tmps, assign, body, hy, hR.mono ?_⟩
          rintro e W' (⟨rfl, h1, h2⟩ | ⟨rfl, h1⟩)
          · exact ⟨true, rfl, .inl ⟨rfl, h1, h2⟩⟩
          · exact ⟨false, rfl, .inr ⟨rfl, h1⟩⟩)
      have HTM := Lib.hid (show p.tm = (ival p.ng p.ds, p.m) from rfl)
      have hmix : Tryz.prog.follows .mixedOrders = true := by kernel_rfl
      simp only [PT.cells] at HK hbk
      unfold IntRes at HNN
      generalize ival p.ng p.ds = zz at *
      gi_wp2
      have hk := HK.out
      generalize wr.alloc (.cells #[.bool p.ng, .slice p.A p.ds.length p.c, .int .i64 p.m.1, .int .i64 p.m.2.1, .int .i64 p.m.2.2.1, .int .i64 p.m.2.2.2] 56) = X at *
      have c0 : X.cell? ⟨wr.heap.size, 0, none⟩ = some (.bool p.ng) := hk.cell 0
      have c1 : X.cell? ⟨wr.heap.size, 1, none⟩ = some (.slice p.A p.ds.length p.c) := hk.cell 1
      have c2 : X.cell? ⟨wr.heap.size, 2, none⟩ = some (.int .i64 p.m.1) := hk.cell 2
      have c3 : X.cell? ⟨wr.heap.size, 3, none⟩ = some (.int .i64 p.m.2.1) := hk.cell 3
      have c4 : X.cell? ⟨wr.heap.size, 4, none⟩ = some (.int .i64 p.m.2.2.1) := hk.cell 4
      have c5 : X.cell? ⟨wr.heap.size, 5, none⟩ = some (.int .i64 p.m.2.2.2) := hk.cell 5
      have lx := hk.lt
      have hbd : Below wr.heap.size wr X.drew := hbk.trans ((Drawn.drew _).below _)
      clear d0 d1 d2 d3 d4 d5
      gi_region_with_o (first | (refine ⟨trivial, ?_⟩; gi_at_call 45; refine (callsIn_wide.2 (HNN.out _ hbd)).mono ?_; rintro e w3 ⟨A3, c3', rfl, h3, h4, h5⟩; obtain ⟨fn, tmps, assign, body, hy, hR⟩ := HYY.out w3 A3 c3' (hbd.trans (h5.mono hbd.size)) h4 h3; have z2 := (h5.cell lx).trans c2; have z3 := (h5.cell lx).trans c3; have z4 := (h5.cell lx).trans c4; have z5 := (h5.cell lx).trans c5) | (refine hR.mono ?_; rintro e W4 ⟨bb, rfl, hcs⟩))
      all_goals
        have hb4 := hbd.trans (h5.mono hbd.size)
        clear c0 c1 c2 c3 c4 c5 z2 z3 z4 z5 hy hR
        rcases hcs with ⟨rfl, hJ3, hk3⟩ | ⟨rfl, hJx3⟩
        · gi_wp2
          go_roundw
          case rel => exact ⟨k + 1, pre ++ [mkP zz A3 c3' p.m], by omega, by simp, by simp [HPL.out], by rw [List.map_append, List.map_cons, List.map_nil, mkP_tm, HPT.out, take_snoc_tm HP.out, HTM.out], hJ3, hk3.1 (hown.old hb4), Nat.le_trans hwl (Nat.le_trans hb4.size hk3.2.2)⟩
          case measure => simp [intOf]; omega
        · gi_wp2
          refine bodyPost_ret (results_none rfl _ _ _) rfl ?_
          exact ⟨⟨_, rfl⟩, .inr ⟨_, ⟨k + 1, by rw [List.map_append, List.map_cons, List.map_nil, mkP_tm, HPT.out, take_snoc_tm HP.out, HTM.out]⟩, hJx3⟩⟩
    · obtain rfl : k = ps.length := by omega
      rw [List.take_length] at hpt
      have HPT := Lib.hid hpt
      clear hpt
      gi_wp2
      go_end0
      exact ⟨⟨_, rfl⟩, .inl ⟨pre, HPT.out, hJs⟩⟩
end Go.Proofs.YtpbapoanjkekmaaGreat
