/- Contract of the law's fixed example awake: it returns true. -/
import Derived.Test.YtkkliemgidhgmaaGreatDoorCards
import Derived.Test.YtkkliemgidhgmaaGreatDoorTie
import Derived.WalkKit
import Derived.ProofKit
import Derived.OpenShut
import Derived.ChangeOld
import Derived.Deep.Slices
import Derived.Deep.Fields
import Derived.ChangeSame
import Derived.Deep.DeepHandedRow
import Derived.Lib.LaidTab
import Derived.Stop.LaidErr
import Derived.Test.YtkkliemgidhgmaaGreatDoorQP
namespace Go.Proofs.YtkkliemgidhgmaaGreatDoor
open Go.RowKit

def awCells (h : Nat) : Array Value := #[.slice (some ⟨h, 0, none⟩) 1 1, .bool true, .slice (some ⟨h + 1, 0, none⟩) 1 1, .bool false, .slice (some ⟨h + 1 + 1, 0, none⟩) 1 1, .bool false]
theorem aw_rows (w : World) (w4 : World) (h0 : Blk w4 w.heap.size 3 #[.int .i64 0]) (h1 : Blk w4 (w.heap.size + 1) 3 #[.int .i64 1]) (h2 : Blk w4 (w.heap.size + 1 + 1) 3 #[.int .i64 (-1)]) (h3 : Blk w4 (w.heap.size + 1 + 1 + 1) 51 (awCells w.heap.size)) :
    RowsIn w4 w4.heap.size (some ⟨w.heap.size + 1 + 1 + 1, 0, none⟩) awRows := by
  refine ⟨fun _ => ⟨_, _, rfl, h3.lt, fun k hk => ?_⟩, by decide, by decide, fun k hk => ?_⟩
  · match k, hk with
    | 0, _ => exact ⟨some ⟨w.heap.size, 0, none⟩, 1, h3.cell 0, h3.cell 1, reads_blk (t := [0]) h0⟩
    | 1, _ => exact ⟨some ⟨w.heap.size + 1, 0, none⟩, 1, h3.cell 2, h3.cell 3, reads_blk (t := [1]) h1⟩
    | 2, _ => exact ⟨some ⟨w.heap.size + 1 + 1, 0, none⟩, 1, h3.cell 4, h3.cell 5, reads_blk (t := [-1]) h2⟩
  · match k, hk with
    | 0, _ => intro x hx; rw [show sg awRows 0 = [0] from rfl, List.mem_singleton] at hx; subst hx; exact ⟨by omega, by omega⟩
    | 1, _ => intro x hx; rw [show sg awRows 1 = [1] from rfl, List.mem_singleton] at hx; subst hx; exact ⟨by omega, by omega⟩
    | 2, _ => intro x hx; rw [show sg awRows 2 = [-1] from rfl, List.mem_singleton] at hx; subst hx; exact ⟨by omega, by omega⟩

set_option maxHeartbeats 1000000 in
set_option maxRecDepth 100000 in
theorem awake_any (w : World) (htab : TabOk w) : Calls Tryz.prog 5 #[] w fun e w' => e = .returned (.bool true) ∧ Below w.heap.size w w' := by
  have HT := Lib.hid htab; clear htab
  go_enter Tryz.func5, Tryz.ntmps5
  go_wp2_with fail
  have h0 := (((Blk.new w 3 #[.int .i64 0]).alloc (.cells #[.int .i64 1] 3)).alloc (.cells #[.int .i64 (-1)] 3)).alloc (.cells (awCells w.heap.size) 51)
  have h1 := ((Blk.new (w.alloc (.cells #[.int .i64 0] 3)) 3 #[.int .i64 1]).alloc (.cells #[.int .i64 (-1)] 3)).alloc (.cells (awCells w.heap.size) 51)
  have h2 := (Blk.new ((w.alloc (.cells #[.int .i64 0] 3)).alloc (.cells #[.int .i64 1] 3)) 3 #[.int .i64 (-1)]).alloc (.cells (awCells w.heap.size) 51)
  have h3 := Blk.new (((w.alloc (.cells #[.int .i64 0] 3)).alloc (.cells #[.int .i64 1] 3)).alloc (.cells #[.int .i64 (-1)] 3)) 51 (awCells w.heap.size)
  have hd : Below w.heap.size w ((((w.alloc (.cells #[.int .i64 0] 3)).alloc (.cells #[.int .i64 1] 3)).alloc (.cells #[.int .i64 (-1)] 3)).alloc (.cells (awCells w.heap.size) 51)) := ((((Below.refl _ _).alloc (Nat.le_refl _) _).alloc (by simp) _).alloc (by simp; omega) _).alloc (by simp; omega) _
  change Calls _ _ _ ((((w.alloc (.cells #[.int .i64 0] 3)).alloc (.cells #[.int .i64 1] 3)).alloc (.cells #[.int .i64 (-1)] 3)).alloc (.cells (awCells w.heap.size) 51)) _
  generalize (((w.alloc (.cells #[.int .i64 0] 3)).alloc (.cells #[.int .i64 1] 3)).alloc (.cells #[.int .i64 (-1)] 3)).alloc (.cells (awCells w.heap.size) 51) = w4 at *
  simp only [World.size_alloc] at h1 h2 h3
  have hz := hd.size
  have hri := aw_rows w w4 h0 h1 h2 h3
  clear h0 h1 h2 h3
  refine (Cover_good 1 (by omega) _ 3 w4.heap.size awRows w4 (Nat.le_refl _) hri (HT.out.on hd)).mono ?_
  rintro e w5 ⟨A1, c1, ts, rfl, hl, _, hok, hb5⟩
  rw [aw_err] at hok ⊢
  obtain ⟨N, hN, hv, hc⟩ := hok rfl
  obtain rfl : N = 1 := by omega
  have hts := aw_cover hc
  subst hts
  obtain ⟨b1, o1, Ak, ck, rfl, q1, c1', hs⟩ := hl.at_ (k := 0) (by decide)
  obtain ⟨b2, o2, rfl, q2, c2'⟩ := hs.at_c (k := 0) (by decide)
  have hd5 := hd.trans (hb5.mono hz)
  clear hok hv hc hl hs hb5 hd hri HT hN
  simp only [Nat.add_zero] at c1' c2'
  rw [show cAt ([[2]].getD 0 []) 0 = 2 from rfl] at c2'
  rw [show ([[2]].getD 0 [] : List Int).length = 1 from rfl] at c1'
  rw [show ([[2]] : List (List Int)).length = 1 from rfl]
  go_wp2_with fail
  go_ret
  exact ⟨rfl, hd5⟩
end Go.Proofs.YtkkliemgidhgmaaGreatDoor

/- The walk of the law SolutionSeparated: it returns true at every list of rows. -/
namespace Go.Proofs.YtkkliemgidhgmaaGreatDoor
open Go.RowKit

/-- rows in memory, however many -/
structure RowsArg (w : World) (A : Option Addr) (rows : List (List Int × Bool)) : Prop where
  at_ : RowsAt w w.heap.size A rows
  len : rows.length ≤ 9223372036854775807
  i64 : ∀ k, k < rows.length → ∀ x ∈ sg rows k, In64 x
theorem RowsArg.few {w w' : World} {A : Option Addr} {rows : List (List Int × Bool)} (h : RowsArg w A rows) (hf : fewB rows = true) (hb : Below w.heap.size w w') : RowsIn w' w.heap.size A rows := by
  unfold fewB at hf
  rw [Bool.and_eq_true, decide_eq_true_eq, allTo_iff] at hf
  exact ⟨h.at_.below hb, hf.1, fun k hk => by have := hf.2 k hk; simpa using this, h.i64⟩

end Go.Proofs.YtkkliemgidhgmaaGreatDoor

/- The walks of the laws SolutionCovers and SolutionPrime: they return true at every n and every list of rows. -/
namespace Go.Proofs.YtkkliemgidhgmaaGreatDoor
open Go.RowKit

theorem errOf_cases (x : Int) (rows : List (List Int × Bool)) : errOf x rows = 0 ∨ errOf x rows = 1 ∨ errOf x rows = 5 := by
  unfold errOf
  split
  · exact .inr (.inl rfl)
  · split
    · exact .inr (.inl rfl)
    · split
      · exact .inr (.inr rfl)
      · exact .inl rfl

end Go.Proofs.YtkkliemgidhgmaaGreatDoor

/- The arguments opened: a slice of rows that reads as data is a list of rows in memory; what the row's listed variables give. -/
namespace Go.Proofs.YtkkliemgidhgmaaGreatDoor
open Go.ChangeShapes Go.WideShapes Go.ChangeAt Go.RowKit Go.Deep

section
variable {H : Type} {enc : TypeId × Value → H} {P : Program} {w : World} {base : Nat} {spare : Nat → Bool} {held : Bool}
theorem open_slice_fields {t e : TypeId} {fs : Array Field} {fuel : Nat} {cs : List Value} {x : DataW H × List MemPlace} (ht : P.underlying t = some (.slice e)) (he : P.underlying e = some (.struct fs))
    (hone : oneCellFields P fs = true) (hC : P.cellsOf e = fs.size) (h : DataW.trod enc P w base spare held fuel t cs = some x) :
    (cs = [.slice none 0 0] ∧ x = (.nil, [])) ∨
    ∃ (a : Addr) (len cap m : Nat) (D : Nat → DataW H) (Pl : Nat → List MemPlace), cs = [.slice (some a) len cap] ∧ base ≤ a.block ∧ len ≤ cap ∧ cap ≤ maxLen ∧ m = (if spare a.block then cap else len) ∧
      x = (.slice ((List.range len).map D) ((List.range (m - len)).map fun j => D (len + j)), MemPlace.row a (m * fs.size) ++ (List.range m).flatMap Pl) ∧
      ∀ i, i < m → ∃ (ys : List (DataW H × List MemPlace)) (n : Nat), D i = .agg (ys.map (·.1)) ∧ Pl i = ys.flatMap (·.2) ∧ ys.length = fs.size ∧
        ∀ (j : Nat) (f : Field), fs[j]? = some f → ∃ (v : Value) (y : DataW H × List MemPlace), w.cell? (a.add (i * fs.size + j)) = some v ∧ ys[j]? = some y ∧ DataW.trod enc P w base spare held n f.type [v] = some y := by
  rcases open_slice ht h with h0 | ⟨a, len, cap, m, n, D, Pl, hcs, hb, hl, hm, hmm, hx, hi⟩
  · exact .inl h0
  · refine .inr ⟨a, len, cap, m, D, Pl, hcs, hb, hl, hm, hmm, by rw [hC] at hx; exact hx, fun i him => ?_⟩
    obtain ⟨cs', hc, ht'⟩ := hi i him
    rw [hC] at hc
    obtain ⟨ys, n', hn', hy, hlen, hyl, hf⟩ := DataW.trod_struct he ht'
    obtain ⟨_, hcl, hat⟩ := World.cells?_some hc
    simp only [Prod.mk.injEq] at hy
    refine ⟨ys, n', hy.1, hy.2, hyl, fun j f hj => ?_⟩
    obtain ⟨ho, hk⟩ := hone_of hone j f hj
    have hjl : j < fs.size := (Array.getElem?_eq_some_iff.1 hj).1
    have hcell := hat j hjl
    have hv : cs'[j]? = some (cs'[j]'(by omega)) := List.getElem?_eq_getElem (by omega)
    have h1 := hf j f hj
    rw [ho, hk] at h1
    have hone' : (cs'.drop j).take 1 = [cs'[j]'(by omega)] := by
      rw [List.drop_eq_getElem_cons (by omega)]
      rfl
    rw [hone'] at h1
    have hys : ys[j]? = some (ys[j]'(by omega)) := List.getElem?_eq_getElem (by omega)
    refine ⟨_, _, ?_, hys, h1.trans hys⟩
    rw [← Go.Deep.add_add, hcell, hv]
end

theorem exists_list {α : Type} (d : α) {p : Nat → α → Prop} (n : Nat) (h : ∀ k, k < n → ∃ a, p k a) : ∃ l : List α, l.length = n ∧ ∀ k, k < n → p k (l.getD k d) := by
  induction n with
  | zero => exact ⟨[], rfl, fun k hk => absurd hk (by omega)⟩
  | succ n ih =>
    obtain ⟨l, hl, hp⟩ := ih fun k hk => h k (by omega)
    obtain ⟨a, ha⟩ := h n (by omega)
    refine ⟨l ++ [a], by simp [hl], fun k hk => ?_⟩
    by_cases hkn : k < n
    · have e : (l ++ [a]).getD k d = l.getD k d := by rw [List.getD_eq_getElem?_getD, List.getElem?_append_left (by omega), List.getD_eq_getElem?_getD]
      rw [e]; exact hp k hkn
    · have hke : k = l.length := by omega
      have e : (l ++ [a]).getD k d = a := by rw [hke]; simp
      rw [e, show k = n by omega]; exact ha
theorem wf_i64 {x : Int} (h : (Lit.int .i64 x).wf = true) : In64 x := by
  simp [Lit.wf, IntKind.min, IntKind.max, IntKind.signed, IntKind.bits] at h
  exact ⟨by omega, by omega⟩

/-- one row -/
theorem ints_row {H : Type} {enc : TypeId × Value → H} {W : World} {fuel : Nat} {v : Value} {y : DataW H × List MemPlace} (h : DataW.trod enc Tryz.prog W 0 (fun _ => true) true fuel 49 [v] = some y) :
    ∃ (l : List Int) (A : Option Addr) (c : Nat), v = .slice A l.length c ∧ Reads W W.heap.size 1 A l.length (l.map (Value.int .i64)) ∧ ∀ x ∈ l, In64 x := by
  rcases open_ints Tryz.underlying49 Tryz.underlying3 (by kernel_rfl) h with ⟨hcs, _⟩ | ⟨x, l, c, zs, hcs, _, hl, hm, hz, _, hcell, hwz⟩
  · simp at hcs
    subst hcs
    exact ⟨[], none, 0, rfl, Reads.none_, by simp⟩
  · simp at hcs
    subst hcs
    simp at hz
    have hlen : (zs.take l).length = l := by rw [List.length_take, hz]; omega
    refine ⟨zs.take l, some x, c, by rw [hlen], ?_, fun z hzm => wf_i64 (hwz z (List.mem_of_mem_take hzm))⟩
    rw [hlen]
    refine ⟨by rw [List.length_map, hlen, Nat.mul_one], fun hpos => ?_⟩
    obtain ⟨b, o, spot⟩ := x
    have hspot : spot = none := by simpa [Addr.add] using World.cell?_spot (hcell 0 (by omega))
    subst hspot
    have h0 := hcell 0 (by omega)
    refine ⟨b, o, rfl, World.block_lt_of_cell? W ⟨b, o, none⟩ h0, fun j u hu => ?_⟩
    have hj : j < l := by have := (List.getElem?_eq_some_iff.1 hu).1; simp at this; omega
    have := hcell j (by omega)
    rw [Addr.add_lit] at this
    rw [this, ← hu, List.getElem?_map, List.getElem?_take, if_pos hj, List.getElem?_eq_getElem (by omega)]
    simp [List.getElem?_eq_getElem (show j < zs.length by omega)]

theorem open_rows {H : Type} {enc : TypeId × Value → H} {W : World} {a0 : Option Addr} {len cap : Nat} {d : DataW H} {p : List MemPlace} (h : DataW.Trod enc Tryz.prog W 0 (fun _ => true) true 22 (.slice a0 len cap) d p) :
    ∃ rows : List (List Int × Bool), rows.length = len ∧ RowsArg W a0 rows := by
  obtain ⟨fuel, hf⟩ := h
  rcases open_slice_fields Tryz.underlying22 Tryz.underlying51 (by kernel_rfl) (by kernel_rfl) hf with ⟨hcs, _⟩ | ⟨a, len', cap', m, D, Pl, hcs, _, hl, hm, hmm, _, hi⟩
  · simp [Value.cells] at hcs
    obtain ⟨rfl, rfl, rfl⟩ := hcs
    exact ⟨[], rfl, fun h0 => absurd h0 (by simp), by simp, fun k hk => absurd hk (by simp)⟩
  · simp [Value.cells] at hcs
    obtain ⟨rfl, rfl, rfl⟩ := hcs
    simp only [if_true] at hmm
    subst hmm
    have each : ∀ k, k < len → ∃ r : List Int × Bool, ∃ Ak ck, W.cell? (a.add (k * 2)) = some (.slice Ak r.1.length ck) ∧ W.cell? (a.add (k * 2 + 1)) = some (.bool r.2) ∧ Reads W W.heap.size 1 Ak r.1.length (r.1.map (Value.int .i64)) ∧ ∀ x ∈ r.1, In64 x := fun k hk => by
      obtain ⟨ys, n, _, _, _, hfd⟩ := hi k (by omega)
      obtain ⟨v0, y0, c0, _, t0⟩ := hfd 0 _ rfl
      obtain ⟨v1, y1, c1, _, t1⟩ := hfd 1 _ rfl
      obtain ⟨l, Ak, ck, rfl, hrd, h64⟩ := ints_row t0
      obtain ⟨b, hb, _⟩ := DataW.trod_bool Tryz.underlying4 t1
      simp at hb
      subst hb
      exact ⟨(l, b), Ak, ck, c0, c1, hrd, h64⟩
    obtain ⟨rows, hlen, hp⟩ := exists_list ([], false) len each
    refine ⟨rows, hlen, fun h0 => ?_, by unfold maxLen at hm; omega, fun k hk => ?_⟩
    · obtain ⟨b, o, spot⟩ := a
      have h00 : 0 < len := by omega
      obtain ⟨_, _, c0, _⟩ := hp 0 h00
      have hspot : spot = none := by simpa [Addr.add] using World.cell?_spot c0
      subst hspot
      have c0' : W.cell? ⟨b, o, none⟩ = some _ := c0
      refine ⟨b, o, rfl, World.block_lt_of_cell? W ⟨b, o, none⟩ c0', fun k hk => ?_⟩
      obtain ⟨Ak, ck, h1, h2, h3, _⟩ := hp k (by omega)
      rw [Addr.add_lit] at h1 h2
      exact ⟨Ak, ck, h1, h2, h3⟩
    · obtain ⟨_, _, _, _, _, h4⟩ := hp k (by omega)
      exact h4

/-! ### the listed variables -/
def db32 : List Int := [0, 1, 28, 2, 29, 14, 24, 3, 30, 22, 20, 15, 25, 17, 4, 8, 31, 27, 13, 23, 21, 19, 16, 7, 26, 12, 18, 6, 11, 5, 10, 9]
def db64 : List Int := [0, 1, 56, 2, 57, 49, 28, 3, 61, 58, 42, 50, 38, 29, 17, 4, 62, 47, 59, 36, 45, 43, 51, 22, 53, 39, 33, 30, 24, 18, 12, 5, 63, 55, 48, 27, 60, 41, 37, 16, 46, 35, 44, 21, 52, 32, 23, 11, 54, 26, 40, 15, 34, 20, 31, 10, 25, 14, 19, 9, 13, 8, 7, 6]
theorem own : ownKnob Tryz.prog.godebug = none := by kernel_rfl
theorem laidOut : laidOutB Tryz.prog = true := by kernel_rfl
theorem gPow : Tryz.prog.globalNamed "internal/strconv.uint64pow10" = some 0 := by kernel_rfl
theorem gPowType : (Tryz.prog.globals[0]?).map (·.type) = some 156 := by kernel_rfl
theorem cellsPow : Tryz.prog.cellsOf 156 = 20 := by kernel_rfl
theorem cellsU64 : Tryz.prog.cellsOf 92 = 1 := by kernel_rfl
def laidList : List (String × DataW Unit) := [("math/bits.deBruijn32tab", Rows.laid_math_bits_deBruijn32tab), ("math/bits.deBruijn64tab", Rows.laid_math_bits_deBruijn64tab), ("internal/strconv.uint64pow10", Rows.laid_internal_strconv_uint64pow10)]
theorem tab_of_laid {W : World} (h : laidMetH Tryz.prog laidList W) : TabOk W :=
  Lib.tabIs_of_head (rest := []) gPow gPowType Tryz.underlying156 Tryz.underlying92 cellsU64 cellsPow (laidMet.tail (laidMet.tail (show laidMet Tryz.prog laidList W from h)))

/-- A WORLD FOR THE WITNESS: the settled one, the three tables holding what their initialisers lay. -/
noncomputable def laidWorld (os : Os) : World :=
  let w := World.holding Tryz.prog os ⟨#[], #[], []⟩
  { w with heap := ((w.heap.modify 0 fun
      | .cells _ t frozen => .cells (Lib.pow10Tab.map (Value.int .u64)).toArray t frozen
      | o => o).modify 1 fun
      | .cells _ t frozen => .cells (db32.map (Value.int .u8)).toArray t frozen
      | o => o).modify 2 fun
      | .cells _ t frozen => .cells (db64.map (Value.int .u8)).toArray t frozen
      | o => o }
end Go.Proofs.YtkkliemgidhgmaaGreatDoor
