/- Contract of slices.SortFunc at terms, with the closure of gather.poly. -/
import Derived.Test.YtpbapoanjkekmaaG7
import Derived.Test.YtpbapoanjkekmaaSortLay
namespace Go.Proofs.Ytpbapoanjkekmaa
open Go.RowKit Go.Sort Go.Shelf Go.Lib

def cfT (x y : PT) : Int := cmpM y.m x.m
theorem ltT (x y : PT) : ltOf cfT x y = decide (ltM y.m x.m) := by
  unfold ltOf cfT
  rw [decide_eq_decide]
  exact cmpM_lt
theorem swoT : SWO (ltOf cfT) where
  irrefl x := by rw [ltT]; simp [ltM_irrefl]
  trans x y z h1 h2 := by
    rw [ltT] at *
    simp only [decide_eq_true_eq] at *
    exact ltM_trans h2 h1
  ntrans x y z h1 h2 := by
    rw [ltT] at *
    simp only [decide_eq_false_iff_not] at *
    intro h
    rcases ltM_tri y.m x.m with k | k | k
    · exact h1 k
    · rw [k] at h2; exact h2 h
    · exact h2 (ltM_trans h k)

set_option maxHeartbeats 1000000 in
theorem clo_any (p q : PT) (W : World) : Calls Try.prog 71 #[.agg p.cells.toArray, .agg q.cells.toArray] W fun e w' => e = .returned (.int .i64 (cfT p q)) ∧ ∃ k os', w' = grow (W.drewN k) os' := by
  have hc := fun W' => CMono_any q.m p.m W'
  have hl : Laid W ((W.alloc (.cells p.cells.toArray 35)).alloc (.cells q.cells.toArray 35)) := ((Laid.refl W).alloc _).alloc _
  unfold moV at hc
  unfold cfT
  generalize cmpM q.m p.m = r at *
  have HC := Lib.hid hc
  have HL := Lib.hid hl
  clear hc hl
  simp only [PT.cells] at *
  generalize p.m.1 = p0 at *
  generalize p.m.2.1 = p1 at *
  generalize p.m.2.2.1 = p2 at *
  generalize p.m.2.2.2 = p3 at *
  generalize q.m.1 = q0 at *
  generalize q.m.2.1 = q1 at *
  generalize q.m.2.2.1 = q2 at *
  generalize q.m.2.2.2 = q3 at *
  go_enter Try.func71, Try.ntmps71
  go_wp2_with (first | (go_at_call 28; refine (HC.out _).mono ?_; rintro e w' ⟨rfl, hl2⟩))
  go_ret
  exact ⟨rfl, HL.out.trans hl2⟩
theorem cmpLaysT (blk off size : Nat) (w : World) : CmpLays Try.prog 71 #[] PT.cells 6 cfT blk off size w :=
  fun _ _ _ _ x y => clo_any x y _
theorem cells_len (x : PT) : x.cells.length = 6 := rfl
theorem cells_one1 (x : PT) : ∀ v ∈ x.cells, v.oneCell' = true := by
  intro u hp
  simp [PT.cells] at hp
  rcases hp with rfl | rfl | rfl | rfl | rfl | rfl <;> rfl

set_option maxHeartbeats 2000000 in
set_option maxRecDepth 100000 in
theorem SortT_any (blk cap : Nat) (d : Array PT) (w : World) (hH : HoldsK PT.cells 6 w blk 0 d) (hblk : blk < w.heap.size) (hsz : d.size < 1000000) :
    Calls Try.prog 70 #[.slice (some ⟨blk, 0, none⟩) d.size cap, .func (.func 71) #[] #[]] w fun e w' =>
      e = .returned (.tuple #[]) ∧ ∃ d' n os, PermIn 0 d.size d d' ∧ SortedIn (ltOf cfT) 0 d.size d' ∧ w' = sortWorldK PT.cells 6 w blk 0 n d' os := by
  have eg : ∀ args w, (callFunc 71 args).run Try.prog w = .ok (.enter 71 args) w := enters_of Try.func71 (by kernel_rfl) rfl
  have hlim : Lib.bitLen d.size < 4611686018427387904 := Nat.lt_of_le_of_lt (Lib.bitLen_le d.size 62 (by omega) (by omega)) (by omega)
  have hp := AnyQ.pdqsortCmpFunc_all (P := Try.prog) (ρ := Try.pdqT_ren) Try.pdqT 6 Try.isAgg35 Try.sizeOf35 PT.cells cfT 71 #[] swoT blk 0 cap d w eg (cmpLaysT blk 0 d.size w) ⟨cells_len, cells_one1, hH, hblk⟩ (d.size + 1) 0 d.size (Lib.bitLen d.size) d w (by omega) rfl (SWK.start hH) (Nat.zero_le _) (Nat.le_refl _) (by omega) hlim (Or.inl rfl)
  have hl : Calls Try.prog 89 #[.int .u64 (d.size : Int)] w fun e w' => e = .returned (.int .i64 (Lib.bitLen d.size : Nat)) ∧ w' = w := by
    have h := Any.bits_Len (SlLaysF0.n15.bits (P := Try.prog) (ρ := Try.pdqT_ren) { Try.pdqT with }) (d.size : Int) w (by omega) (by omega)
    rwa [Int.toNat_natCast] at h
  have hq := pdq_sorts (ltOf cfT) swoT d 0 d.size (Lib.bitLen d.size) true true (Nat.zero_le _) (Nat.le_refl _) (Or.inl rfl)
  change Calls Try.prog 88 _ _ _ at hp
  have wr : IntKind.u64.wrap (d.size : Int) = d.size := by simp [IntKind.wrap, IntKind.bits, IntKind.signed]; omega
  have HP := Lib.hid hp; have HL := Lib.hid hl; have HQ := Lib.hid hq
  clear hH hp hl hq hlim
  go_enter Try.func70, Try.ntmps70
  go_wp2_with (first | (go_at_call 89; refine HL.out.mono ?_; rintro e w' ⟨rfl, rfl⟩) | (go_at_call 88; refine HP.out.mono ?_; rintro e w' ⟨rfl, n, os, rfl⟩))
  go_end0
  exact ⟨rfl, _, n, os, HQ.out.1, HQ.out.2, rfl⟩
end Go.Proofs.Ytpbapoanjkekmaa
