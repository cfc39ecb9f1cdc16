/- Contracts of sparse.Const, Var. -/
import Derived.Test.YtpbapoanjkekmaaH5
namespace Go.Proofs.Ytpbapoanjkekmaa
open Go.RowKit
attribute [local go_sem ↓] Go.wp_at_zero Go.wp_at_succ

/-- one term in a new row -/
theorem PGood.one {X : World} {base : Nat} (hb : base ≤ X.heap.size) (z : Int) (hz : z ≠ 0) (A : Option Addr) (c : Nat) (m : Mo) (hv : vld m = true) (E : Int) (hE : MB E m) (hn : NatB X A (dig z.natAbs)) (hc : (dig z.natAbs).length ≤ c) (o : Array Value) (ho : o = (mkP z A c m).cells.toArray) :
    PGood (X.alloc (.cells o 35)) base (.slice (some ⟨X.heap.size, 0, none⟩) 1 1) [mkP z A c m] (Go.Proofs.Ytpbapoanjkekmaa.cf [(z, m)]) 1 E z.natAbs := by
  subst ho
  have hba : Below X.heap.size X (X.alloc (.cells (mkP z A c m).cells.toArray 35)) := (Below.refl _ X).alloc (Nat.le_refl _) _
  refine ⟨⟨⟨by simp [PT.cells], .inr ⟨X.heap.size, 1, (mkP z A c m).cells.toArray, rfl, hb, Blk.new X _ _, Nat.le_refl _, by decide, rfl, by simp [PT.cells]⟩⟩, fun p hp => ?_, fun p hp => ?_⟩, ⟨fun t ht => ?_, fun t ht => ?_, by simp⟩, fun x => ?_, by simp, fun p hp => ?_, ?_⟩
  · simp at hp; subst hp; exact ⟨hn.old hba, hc⟩
  · simp at hp; subst hp; exact mkP_cn _ _ _ _
  · simp [mkP_tm] at ht; subst ht; exact hz
  · simp [mkP_tm] at ht; subst ht; exact hv
  · simp [mkP_tm]
  · simp at hp; subst hp; exact hE
  · simp [mkP_tm, nrm]
theorem PGood.none (w : World) (base : Nat) (F : Mo → Int) (hF : ∀ m, F m = 0) (N : Nat) (E : Int) (M : Nat) : PGood w base (.slice none 0 0) [] F N E M :=
  ⟨POwn.nil w base, Canon.nil, fun m => by rw [hF]; rfl, Nat.zero_le _, fun _ h => by simp at h, Nat.zero_le _⟩

set_option maxHeartbeats 1000000 in
set_option maxRecDepth 100000 in
theorem Const_any (ng : Bool) (A : Option Addr) (c B : Nat) (ds : List Nat) (w : World) (hB : B ≤ w.heap.size) (h : NatIn w B A c ds) (hm : ds.length ≤ 1000000) :
    Calls Try.prog 33 #[.agg #[.bool ng, .slice A ds.length c]] w (PRes (cf [(ival ng ds, (0, 0, 0, 0))]) 1 0 (ival ng ds).natAbs w) := by
  have hbx : Below w.heap.size w (w.alloc (.cells #[.bool ng, .slice A ds.length c] 31)) := (Below.refl _ _).alloc (Nat.le_refl _) _
  have HS := Lib.hid (fun (W : World) (hW : Below w.heap.size w W) => Sign_any ng A c B ds W (Nat.le_trans hB hW.size) (h.below (hW.mono hB)) hm)
  have HN := Lib.hid (fun (W : World) (hW : Below w.heap.size w W) => INormal_any ng A c B ds W (Nat.le_trans hB hW.size) (h.below (hW.mono hB)) hm)
  have HX := Lib.hid (boxes2 w 31 31 #[.bool ng, .slice A ds.length c] #[.bool ng, .slice A ds.length c])
  have HBX := Lib.hid hbx
  unfold IntRes at HN
  clear h hbx
  by_cases hz : ival ng ds = 0
  · have HZ := Lib.hid hz
    have hs0 : sgnOf (ival ng ds) = 0 := by rw [hz]; rfl
    rw [hs0] at HS
    clear hz hs0
    generalize ival ng ds = z at *
    go_enter Try.func33, Try.ntmps33
    go_wp2_with fail
    refine (HS.out _ HBX.out).mono ?_
    rintro e w1 ⟨rfl, rfl⟩
    go_wp2_with fail
    go_ret
    exact ⟨none, 0, [], rfl, PGood.none _ _ _ (fun m => by rw [HZ.out, cf_cons]; simp [cf_nil]) _ _ _, HX.out.1⟩
  · have HZ := Lib.hid hz
    have hs0 : (sgnOf (ival ng ds) == 0) = false := by unfold sgnOf; split <;> simp
    generalize sgnOf (ival ng ds) = sg at *
    clear hz
    generalize ival ng ds = z at *
    go_enter Try.func33, Try.ntmps33
    go_wp2_with fail
    refine (HS.out _ HBX.out).mono ?_
    rintro e w1 ⟨rfl, rfl⟩
    obtain ⟨hx0, k0, k1, hs⟩ := HX.out
    clear HX hs HBX
    generalize (w.alloc (.cells #[.bool ng, .slice A ds.length c] 31)).alloc (.cells #[.bool ng, .slice A ds.length c] 31) = X at *
    have d0 : X.cell? ⟨w.heap.size, 0, none⟩ = some (.bool ng) := k0.cell 0
    have d1 : X.cell? ⟨w.heap.size, 1, none⟩ = some (.slice A ds.length c) := k0.cell 1
    go_wp2_with fail
    refine (HN.out _ hx0).mono ?_
    rintro e w2 ⟨A3, c3, rfl, h3, h4, h5⟩
    clear d0 d1
    have hb2 := hx0.trans (h5.mono hx0.size)
    go_wp2_with fail
    go_ret
    exact ⟨_, 1, [mkP z A3 c3 (0, 0, 0, 0)], rfl, PGood.one hb2.size z HZ.out A3 c3 (0, 0, 0, 0) rfl 0 (by unfold MB; simp) h4 h3 _ rfl, hb2.alloc hb2.size _⟩

theorem lvl_any (l : Int) (w : World) : Calls Try.prog 53 #[.int .i64 l] w fun e w' => e = .returned (.bool (decide (1 ≤ l) && decide (l ≤ 4))) ∧ w = w' := by
  by_cases h1 : 1 ≤ l
  · by_cases h2 : l ≤ 4
    · go_enter Try.func53, Try.ntmps53
      go_wp2
      go_ret
      exact ⟨by simp [h1, h2], rfl⟩
    · go_enter Try.func53, Try.ntmps53
      go_wp2
      go_ret
      exact ⟨by rw [decide_eq_false (show ¬ l ≤ 4 by omega)]; rfl, rfl⟩
  · go_enter Try.func53, Try.ntmps53
    go_wp2
    go_ret
    exact ⟨by rw [decide_eq_false (show ¬ (1 : Int) ≤ l by omega)]; rfl, rfl⟩
/-- the monomial of a variable -/
def xM (l : Int) : Mo := (if l = 1 then 1 else 0, if l = 2 then 1 else 0, if l = 3 then 1 else 0, if l = 4 then 1 else 0)
theorem Var_out (l : Int) (w : World) (h : ¬ (1 ≤ l ∧ l ≤ 4)) : Calls Try.prog 25 #[.int .i64 l] w fun e w' => e = .returned (.slice none 0 0) ∧ w = w' := by
  have hl : (decide (1 ≤ l) && decide (l ≤ 4)) = false := by
    by_cases h1 : 1 ≤ l
    · rw [decide_eq_false (show ¬ l ≤ 4 by omega), Bool.and_false]
    · rw [decide_eq_false h1]; rfl
  have hc := lvl_any l w
  rw [hl] at hc
  have HC := Lib.hid hc
  clear hc hl h
  go_enter Try.func25, Try.ntmps25
  go_wp2_with fail
  refine HC.out.mono ?_
  rintro e w1 ⟨rfl, rfl⟩
  go_wp2_with fail
  go_ret
  exact ⟨rfl, rfl⟩

set_option maxHeartbeats 1000000 in
set_option maxRecDepth 100000 in
theorem Var_1 (w : World) : Calls Try.prog 25 #[.int .i64 1] w (PRes (cf [(1, (1, 0, 0, 0))]) 1 1 1 w) := by
  have HC := Lib.hid (lvl_any 1 w)
  have ho := fun (W : World) => IOf_any 1 (by omega) (by omega) W
  unfold IntRes at ho
  generalize hd : dig (Int.natAbs 1) = d1 at ho
  generalize hn : decide ((1 : Int) < 0) = n1 at ho
  have HO := Lib.hid ho; have HD := Lib.hid hd; have HN := Lib.hid hn
  have HK := Lib.hid (Blk.new w 33 #[.int .i64 1, .int .i64 0, .int .i64 0, .int .i64 0]); have HB := Lib.hid ((Below.refl w.heap.size w).alloc (Nat.le_refl _) (.cells #[.int .i64 1, .int .i64 0, .int .i64 0, .int .i64 0] 33))
  clear ho hd hn
  go_enter Try.func25, Try.ntmps25
  go_wp2_with fail
  refine HC.out.mono ?_
  rintro e w1 ⟨rfl, rfl⟩
  go_wp2_with fail
  obtain hk := HK.out
  obtain hb := HB.out
  clear HK HB
  generalize w.alloc (.cells #[.int .i64 1, .int .i64 0, .int .i64 0, .int .i64 0] 33) = X at *
  have c0 : X.cell? ⟨w.heap.size, 0, none⟩ = some (.int .i64 1) := hk.cell 0
  have c1 : X.cell? ⟨w.heap.size, 1, none⟩ = some (.int .i64 0) := hk.cell 1
  have c2 : X.cell? ⟨w.heap.size, 2, none⟩ = some (.int .i64 0) := hk.cell 2
  have c3 : X.cell? ⟨w.heap.size, 3, none⟩ = some (.int .i64 0) := hk.cell 3
  have lx := hk.lt
  have hb' : Below w.heap.size w X.drew := hb.trans ((Drawn.drew _).below _)
  go_region_held3 (fun w' => w'.cell? ⟨w.heap.size, 0, none⟩ = some (.int .i64 1) ∧ w'.cell? ⟨w.heap.size, 1, none⟩ = some (.int .i64 0) ∧ w'.cell? ⟨w.heap.size, 2, none⟩ = some (.int .i64 0) ∧ w'.cell? ⟨w.heap.size, 3, none⟩ = some (.int .i64 0))
    (first | exact ⟨c0, c1, c2, c3⟩ | exact ⟨(h5.cell lx).trans c0, (h5.cell lx).trans c1, (h5.cell lx).trans c2, (h5.cell lx).trans c3⟩ | exact ⟨(hz.cell lx).trans c0, (hz.cell lx).trans c1, (hz.cell lx).trans c2, (hz.cell lx).trans c3⟩)
    (first | (go_at_call 34; refine (HO.out _).mono ?_; rintro e w2 ⟨A3, c3', rfl, h3, h4, h5⟩; have hz := h5.alloc h5.size (.cells #[.bool n1, .slice A3 d1.length c3', .int .i64 1, .int .i64 0, .int .i64 0, .int .i64 0] 35)))
  clear c0 c1 c2 c3
  have hb2 := hb'.trans (h5.mono hb'.size)
  go_wp2_with fail
  go_ret
  exact ⟨_, 1, [mkP 1 A3 c3' (1, 0, 0, 0)], rfl, PGood.one hb2.size 1 (by decide) A3 c3' (1, 0, 0, 0) rfl 1 (by unfold MB; simp) (by rw [HD.out]; exact h4) (by rw [HD.out]; exact h3) _ (by rw [← HD.out, ← HN.out]; rfl), hb2.alloc hb2.size _⟩

set_option maxHeartbeats 1000000 in
set_option maxRecDepth 100000 in
theorem Var_2 (w : World) : Calls Try.prog 25 #[.int .i64 2] w (PRes (cf [(1, (0, 1, 0, 0))]) 1 1 1 w) := by
  have HC := Lib.hid (lvl_any 2 w)
  have ho := fun (W : World) => IOf_any 1 (by omega) (by omega) W
  unfold IntRes at ho
  generalize hd : dig (Int.natAbs 1) = d1 at ho
  generalize hn : decide ((1 : Int) < 0) = n1 at ho
  have HO := Lib.hid ho; have HD := Lib.hid hd; have HN := Lib.hid hn
  have HK := Lib.hid (Blk.new w 33 #[.int .i64 0, .int .i64 1, .int .i64 0, .int .i64 0]); have HB := Lib.hid ((Below.refl w.heap.size w).alloc (Nat.le_refl _) (.cells #[.int .i64 0, .int .i64 1, .int .i64 0, .int .i64 0] 33))
  clear ho hd hn
  go_enter Try.func25, Try.ntmps25
  go_wp2_with fail
  refine HC.out.mono ?_
  rintro e w1 ⟨rfl, rfl⟩
  go_wp2_with fail
  obtain hk := HK.out
  obtain hb := HB.out
  clear HK HB
  generalize w.alloc (.cells #[.int .i64 0, .int .i64 1, .int .i64 0, .int .i64 0] 33) = X at *
  have c0 : X.cell? ⟨w.heap.size, 0, none⟩ = some (.int .i64 0) := hk.cell 0
  have c1 : X.cell? ⟨w.heap.size, 1, none⟩ = some (.int .i64 1) := hk.cell 1
  have c2 : X.cell? ⟨w.heap.size, 2, none⟩ = some (.int .i64 0) := hk.cell 2
  have c3 : X.cell? ⟨w.heap.size, 3, none⟩ = some (.int .i64 0) := hk.cell 3
  have lx := hk.lt
  have hb' : Below w.heap.size w X.drew := hb.trans ((Drawn.drew _).below _)
  go_region_held3 (fun w' => w'.cell? ⟨w.heap.size, 0, none⟩ = some (.int .i64 0) ∧ w'.cell? ⟨w.heap.size, 1, none⟩ = some (.int .i64 1) ∧ w'.cell? ⟨w.heap.size, 2, none⟩ = some (.int .i64 0) ∧ w'.cell? ⟨w.heap.size, 3, none⟩ = some (.int .i64 0))
    (first | exact ⟨c0, c1, c2, c3⟩ | exact ⟨(h5.cell lx).trans c0, (h5.cell lx).trans c1, (h5.cell lx).trans c2, (h5.cell lx).trans c3⟩ | exact ⟨(hz.cell lx).trans c0, (hz.cell lx).trans c1, (hz.cell lx).trans c2, (hz.cell lx).trans c3⟩)
    (first | (go_at_call 34; refine (HO.out _).mono ?_; rintro e w2 ⟨A3, c3', rfl, h3, h4, h5⟩; have hz := h5.alloc h5.size (.cells #[.bool n1, .slice A3 d1.length c3', .int .i64 0, .int .i64 1, .int .i64 0, .int .i64 0] 35)))
  clear c0 c1 c2 c3
  have hb2 := hb'.trans (h5.mono hb'.size)
  go_wp2_with fail
  go_ret
  exact ⟨_, 1, [mkP 1 A3 c3' (0, 1, 0, 0)], rfl, PGood.one hb2.size 1 (by decide) A3 c3' (0, 1, 0, 0) rfl 1 (by unfold MB; simp) (by rw [HD.out]; exact h4) (by rw [HD.out]; exact h3) _ (by rw [← HD.out, ← HN.out]; rfl), hb2.alloc hb2.size _⟩

set_option maxHeartbeats 1000000 in
set_option maxRecDepth 100000 in
theorem Var_3 (w : World) : Calls Try.prog 25 #[.int .i64 3] w (PRes (cf [(1, (0, 0, 1, 0))]) 1 1 1 w) := by
  have HC := Lib.hid (lvl_any 3 w)
  have ho := fun (W : World) => IOf_any 1 (by omega) (by omega) W
  unfold IntRes at ho
  generalize hd : dig (Int.natAbs 1) = d1 at ho
  generalize hn : decide ((1 : Int) < 0) = n1 at ho
  have HO := Lib.hid ho; have HD := Lib.hid hd; have HN := Lib.hid hn
  have HK := Lib.hid (Blk.new w 33 #[.int .i64 0, .int .i64 0, .int .i64 1, .int .i64 0]); have HB := Lib.hid ((Below.refl w.heap.size w).alloc (Nat.le_refl _) (.cells #[.int .i64 0, .int .i64 0, .int .i64 1, .int .i64 0] 33))
  clear ho hd hn
  go_enter Try.func25, Try.ntmps25
  go_wp2_with fail
  refine HC.out.mono ?_
  rintro e w1 ⟨rfl, rfl⟩
  go_wp2_with fail
  obtain hk := HK.out
  obtain hb := HB.out
  clear HK HB
  generalize w.alloc (.cells #[.int .i64 0, .int .i64 0, .int .i64 1, .int .i64 0] 33) = X at *
  have c0 : X.cell? ⟨w.heap.size, 0, none⟩ = some (.int .i64 0) := hk.cell 0
  have c1 : X.cell? ⟨w.heap.size, 1, none⟩ = some (.int .i64 0) := hk.cell 1
  have c2 : X.cell? ⟨w.heap.size, 2, none⟩ = some (.int .i64 1) := hk.cell 2
  have c3 : X.cell? ⟨w.heap.size, 3, none⟩ = some (.int .i64 0) := hk.cell 3
  have lx := hk.lt
  have hb' : Below w.heap.size w X.drew := hb.trans ((Drawn.drew _).below _)
  go_region_held3 (fun w' => w'.cell? ⟨w.heap.size, 0, none⟩ = some (.int .i64 0) ∧ w'.cell? ⟨w.heap.size, 1, none⟩ = some (.int .i64 0) ∧ w'.cell? ⟨w.heap.size, 2, none⟩ = some (.int .i64 1) ∧ w'.cell? ⟨w.heap.size, 3, none⟩ = some (.int .i64 0))
    (first | exact ⟨c0, c1, c2, c3⟩ | exact ⟨(h5.cell lx).trans c0, (h5.cell lx).trans c1, (h5.cell lx).trans c2, (h5.cell lx).trans c3⟩ | exact ⟨(hz.cell lx).trans c0, (hz.cell lx).trans c1, (hz.cell lx).trans c2, (hz.cell lx).trans c3⟩)
    (first | (go_at_call 34; refine (HO.out _).mono ?_; rintro e w2 ⟨A3, c3', rfl, h3, h4, h5⟩; have hz := h5.alloc h5.size (.cells #[.bool n1, .slice A3 d1.length c3', .int .i64 0, .int .i64 0, .int .i64 1, .int .i64 0] 35)))
  clear c0 c1 c2 c3
  have hb2 := hb'.trans (h5.mono hb'.size)
  go_wp2_with fail
  go_ret
  exact ⟨_, 1, [mkP 1 A3 c3' (0, 0, 1, 0)], rfl, PGood.one hb2.size 1 (by decide) A3 c3' (0, 0, 1, 0) rfl 1 (by unfold MB; simp) (by rw [HD.out]; exact h4) (by rw [HD.out]; exact h3) _ (by rw [← HD.out, ← HN.out]; rfl), hb2.alloc hb2.size _⟩

set_option maxHeartbeats 1000000 in
set_option maxRecDepth 100000 in
theorem Var_4 (w : World) : Calls Try.prog 25 #[.int .i64 4] w (PRes (cf [(1, (0, 0, 0, 1))]) 1 1 1 w) := by
  have HC := Lib.hid (lvl_any 4 w)
  have ho := fun (W : World) => IOf_any 1 (by omega) (by omega) W
  unfold IntRes at ho
  generalize hd : dig (Int.natAbs 1) = d1 at ho
  generalize hn : decide ((1 : Int) < 0) = n1 at ho
  have HO := Lib.hid ho; have HD := Lib.hid hd; have HN := Lib.hid hn
  have HK := Lib.hid (Blk.new w 33 #[.int .i64 0, .int .i64 0, .int .i64 0, .int .i64 1]); have HB := Lib.hid ((Below.refl w.heap.size w).alloc (Nat.le_refl _) (.cells #[.int .i64 0, .int .i64 0, .int .i64 0, .int .i64 1] 33))
  clear ho hd hn
  go_enter Try.func25, Try.ntmps25
  go_wp2_with fail
  refine HC.out.mono ?_
  rintro e w1 ⟨rfl, rfl⟩
  go_wp2_with fail
  obtain hk := HK.out
  obtain hb := HB.out
  clear HK HB
  generalize w.alloc (.cells #[.int .i64 0, .int .i64 0, .int .i64 0, .int .i64 1] 33) = X at *
  have c0 : X.cell? ⟨w.heap.size, 0, none⟩ = some (.int .i64 0) := hk.cell 0
  have c1 : X.cell? ⟨w.heap.size, 1, none⟩ = some (.int .i64 0) := hk.cell 1
  have c2 : X.cell? ⟨w.heap.size, 2, none⟩ = some (.int .i64 0) := hk.cell 2
  have c3 : X.cell? ⟨w.heap.size, 3, none⟩ = some (.int .i64 1) := hk.cell 3
  have lx := hk.lt
  have hb' : Below w.heap.size w X.drew := hb.trans ((Drawn.drew _).below _)
  go_region_held3 (fun w' => w'.cell? ⟨w.heap.size, 0, none⟩ = some (.int .i64 0) ∧ w'.cell? ⟨w.heap.size, 1, none⟩ = some (.int .i64 0) ∧ w'.cell? ⟨w.heap.size, 2, none⟩ = some (.int .i64 0) ∧ w'.cell? ⟨w.heap.size, 3, none⟩ = some (.int .i64 1))
    (first | exact ⟨c0, c1, c2, c3⟩ | exact ⟨(h5.cell lx).trans c0, (h5.cell lx).trans c1, (h5.cell lx).trans c2, (h5.cell lx).trans c3⟩ | exact ⟨(hz.cell lx).trans c0, (hz.cell lx).trans c1, (hz.cell lx).trans c2, (hz.cell lx).trans c3⟩)
    (first | (go_at_call 34; refine (HO.out _).mono ?_; rintro e w2 ⟨A3, c3', rfl, h3, h4, h5⟩; have hz := h5.alloc h5.size (.cells #[.bool n1, .slice A3 d1.length c3', .int .i64 0, .int .i64 0, .int .i64 0, .int .i64 1] 35)))
  clear c0 c1 c2 c3
  have hb2 := hb'.trans (h5.mono hb'.size)
  go_wp2_with fail
  go_ret
  exact ⟨_, 1, [mkP 1 A3 c3' (0, 0, 0, 1)], rfl, PGood.one hb2.size 1 (by decide) A3 c3' (0, 0, 0, 1) rfl 1 (by unfold MB; simp) (by rw [HD.out]; exact h4) (by rw [HD.out]; exact h3) _ (by rw [← HD.out, ← HN.out]; rfl), hb2.alloc hb2.size _⟩
end Go.Proofs.Ytpbapoanjkekmaa
