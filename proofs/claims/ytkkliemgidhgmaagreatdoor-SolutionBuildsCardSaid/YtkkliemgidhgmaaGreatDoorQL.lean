/- Contract of the law's fixed example awake: it returns true. -/
import Derived.Test.YtkkliemgidhgmaaGreatDoorQP
namespace Go.Proofs.YtkkliemgidhgmaaGreatDoor
open Go.RowKit

def awCells (h : Nat) : Array Value := #[.slice (some ⟨h, 0, none⟩) 1 1, .bool true, .slice (some ⟨h + 1, 0, none⟩) 1 1, .bool false, .slice (some ⟨h + 1 + 1, 0, none⟩) 1 1, .bool false]
theorem aw_rows (w : World) (w4 : World) (h0 : Blk w4 w.heap.size 3 #[.int .i64 0]) (h1 : Blk w4 (w.heap.size + 1) 3 #[.int .i64 1]) (h2 : Blk w4 (w.heap.size + 1 + 1) 3 #[.int .i64 (-1)]) (h3 : Blk w4 (w.heap.size + 1 + 1 + 1) 51 (awCells w.heap.size)) :
    RowsIn w4 w4.heap.size (some ⟨w.heap.size + 1 + 1 + 1, 0, none⟩) awRows := by
  refine ⟨fun _ => ⟨_, _, rfl, h3.lt, fun k hk => ?_⟩, by decide, by decide, fun k hk => ?_⟩
  · match k, hk with
    | 0, _ => exact ⟨some ⟨w.heap.size, 0, none⟩, 1, h3.cell 0, h3.cell 1, reads_blk (t := [0]) h0⟩
    | 1, _ => exact ⟨some ⟨w.heap.size + 1, 0, none⟩, 1, h3.cell 2, h3.cell 3, reads_blk (t := [1]) h1⟩
    | 2, _ => exact ⟨some ⟨w.heap.size + 1 + 1, 0, none⟩, 1, h3.cell 4, h3.cell 5, reads_blk (t := [-1]) h2⟩
  · match k, hk with
    | 0, _ => intro x hx; rw [show sg awRows 0 = [0] from rfl, List.mem_singleton] at hx; subst hx; exact ⟨by omega, by omega⟩
    | 1, _ => intro x hx; rw [show sg awRows 1 = [1] from rfl, List.mem_singleton] at hx; subst hx; exact ⟨by omega, by omega⟩
    | 2, _ => intro x hx; rw [show sg awRows 2 = [-1] from rfl, List.mem_singleton] at hx; subst hx; exact ⟨by omega, by omega⟩

set_option maxHeartbeats 1000000 in
set_option maxRecDepth 100000 in
theorem awake_any (w : World) (htab : TabOk w) : Calls Tryz.prog 5 #[] w fun e w' => e = .returned (.bool true) ∧ Below w.heap.size w w' := by
  have HT := Lib.hid htab; clear htab
  go_enter Tryz.func5, Tryz.ntmps5
  go_wp2_with fail
  have h0 := (((Blk.new w 3 #[.int .i64 0]).alloc (.cells #[.int .i64 1] 3)).alloc (.cells #[.int .i64 (-1)] 3)).alloc (.cells (awCells w.heap.size) 51)
  have h1 := ((Blk.new (w.alloc (.cells #[.int .i64 0] 3)) 3 #[.int .i64 1]).alloc (.cells #[.int .i64 (-1)] 3)).alloc (.cells (awCells w.heap.size) 51)
  have h2 := (Blk.new ((w.alloc (.cells #[.int .i64 0] 3)).alloc (.cells #[.int .i64 1] 3)) 3 #[.int .i64 (-1)]).alloc (.cells (awCells w.heap.size) 51)
  have h3 := Blk.new (((w.alloc (.cells #[.int .i64 0] 3)).alloc (.cells #[.int .i64 1] 3)).alloc (.cells #[.int .i64 (-1)] 3)) 51 (awCells w.heap.size)
  have hd : Below w.heap.size w ((((w.alloc (.cells #[.int .i64 0] 3)).alloc (.cells #[.int .i64 1] 3)).alloc (.cells #[.int .i64 (-1)] 3)).alloc (.cells (awCells w.heap.size) 51)) := ((((Below.refl _ _).alloc (Nat.le_refl _) _).alloc (by simp) _).alloc (by simp; omega) _).alloc (by simp; omega) _
  change Calls _ _ _ ((((w.alloc (.cells #[.int .i64 0] 3)).alloc (.cells #[.int .i64 1] 3)).alloc (.cells #[.int .i64 (-1)] 3)).alloc (.cells (awCells w.heap.size) 51)) _
  generalize (((w.alloc (.cells #[.int .i64 0] 3)).alloc (.cells #[.int .i64 1] 3)).alloc (.cells #[.int .i64 (-1)] 3)).alloc (.cells (awCells w.heap.size) 51) = w4 at *
  simp only [World.size_alloc] at h1 h2 h3
  have hz := hd.size
  have hri := aw_rows w w4 h0 h1 h2 h3
  clear h0 h1 h2 h3
  refine (Cover_good 1 (by omega) _ 3 w4.heap.size awRows w4 (Nat.le_refl _) hri (HT.out.on hd)).mono ?_
  rintro e w5 ⟨A1, c1, ts, rfl, hl, _, hok, hb5⟩
  rw [aw_err] at hok ⊢
  obtain ⟨N, hN, hv, hc⟩ := hok rfl
  obtain rfl : N = 1 := by omega
  have hts := aw_cover hc
  subst hts
  obtain ⟨b1, o1, Ak, ck, rfl, q1, c1', hs⟩ := hl.at_ (k := 0) (by decide)
  obtain ⟨b2, o2, rfl, q2, c2'⟩ := hs.at_c (k := 0) (by decide)
  have hd5 := hd.trans (hb5.mono hz)
  clear hok hv hc hl hs hb5 hd hri HT hN
  simp only [Nat.add_zero] at c1' c2'
  rw [show cAt ([[2]].getD 0 []) 0 = 2 from rfl] at c2'
  rw [show ([[2]].getD 0 [] : List Int).length = 1 from rfl] at c1'
  rw [show ([[2]] : List (List Int)).length = 1 from rfl]
  go_wp2_with fail
  go_ret
  exact ⟨rfl, hd5⟩
end Go.Proofs.YtkkliemgidhgmaaGreatDoor

/- The walk of the law SolutionSeparated: it returns true at every list of rows. -/
namespace Go.Proofs.YtkkliemgidhgmaaGreatDoor
open Go.RowKit

/-- rows in memory, however many -/
structure RowsArg (w : World) (A : Option Addr) (rows : List (List Int × Bool)) : Prop where
  at_ : RowsAt w w.heap.size A rows
  len : rows.length ≤ 9223372036854775807
  i64 : ∀ k, k < rows.length → ∀ x ∈ sg rows k, In64 x
theorem RowsArg.few {w w' : World} {A : Option Addr} {rows : List (List Int × Bool)} (h : RowsArg w A rows) (hf : fewB rows = true) (hb : Below w.heap.size w w') : RowsIn w' w.heap.size A rows := by
  unfold fewB at hf
  rw [Bool.and_eq_true, decide_eq_true_eq, allTo_iff] at hf
  exact ⟨h.at_.below hb, hf.1, fun k hk => by have := hf.2 k hk; simpa using this, h.i64⟩

end Go.Proofs.YtkkliemgidhgmaaGreatDoor

/- The walks of the laws SolutionCovers and SolutionPrime: they return true at every n and every list of rows. -/
namespace Go.Proofs.YtkkliemgidhgmaaGreatDoor
open Go.RowKit

theorem errOf_cases (x : Int) (rows : List (List Int × Bool)) : errOf x rows = 0 ∨ errOf x rows = 1 ∨ errOf x rows = 5 := by
  unfold errOf
  split
  · exact .inr (.inl rfl)
  · split
    · exact .inr (.inl rfl)
    · split
      · exact .inr (.inr rfl)
      · exact .inl rfl

end Go.Proofs.YtkkliemgidhgmaaGreatDoor
