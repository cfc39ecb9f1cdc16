/- Words for polynomials that a call hands back; the first loop of gather.poly. -/
import Derived.Test.YtpbapoanjkekmaaGreatSortLay
import Derived.Test.YtpbapoanjkekmaaGreatG6
namespace Go.Proofs.YtpbapoanjkekmaaGreat
open Go.RowKit

/-- a row of terms that the call itself has made -/
structure POwn (w : World) (base : Nat) (v : Value) (ps : List PT) : Prop where
  row : w.ownsRow base 56 6 v ps.length (ps.flatMap PT.cells)
  dg : ∀ p ∈ ps, NatB w p.A p.ds ∧ p.ds.length ≤ p.c
  cn : ∀ p ∈ ps, Cn p
theorem POwn.nil (w : World) (base : Nat) : POwn w base (.slice none 0 0) [] := ⟨⟨rfl, .inl ⟨rfl, rfl⟩⟩, fun _ h => by simp at h, fun _ h => by simp at h⟩
theorem POwn.old {w w' : World} {base : Nat} {v : Value} {ps : List PT} (h : POwn w base v ps) (hb : Below w.heap.size w w') : POwn w' base v ps := ⟨own_old h.row hb, fun p hp => ⟨(h.dg p hp).1.old hb, (h.dg p hp).2⟩, h.cn⟩
theorem POwn.mono {w : World} {base base' : Nat} {v : Value} {ps : List PT} (h : POwn w base v ps) (hb : base' ≤ base) : POwn w base' v ps := ⟨⟨h.row.1, h.row.2.imp id fun ⟨g, cap, cur, h1, h2, h3⟩ => ⟨g, cap, cur, h1, Nat.le_trans hb h2, h3⟩⟩, h.dg, h.cn⟩
theorem POwn.nin {w : World} {base : Nat} {v : Value} {ps : List PT} (h : POwn w base v ps) {p : PT} (hp : p ∈ ps) : NatIn w w.heap.size p.A p.c p.ds := by
  obtain ⟨h1, h2⟩ := h.dg p hp
  have e := (h.cn p hp).ds
  exact ⟨h1.reads, by rw [e]; exact dig_dig _, h2⟩
theorem POwn.polyIn {w : World} {base c n : Nat} {A : Option Addr} {ps : List PT} (h : POwn w base (.slice A n c) ps) : PolyIn w w.heap.size A ps := by
  refine ⟨?_, fun p hp => h.nin hp⟩
  obtain ⟨A', c', e⟩ := own_slice6 h.row
  injection e with e1 e2 e3
  subst e1; subst e2; subst e3
  exact Reads.of_own h.row
def PolyRes (F : Mo → Int) (N : Nat) (w : World) (e : Ending) (w' : World) : Prop :=
  ∃ A c ps, e = .returned (.slice A ps.length c) ∧ POwn w' w.heap.size (.slice A ps.length c) ps ∧ Canon (ps.map PT.tm) ∧ (∀ m, cf (ps.map PT.tm) m = F m) ∧ ps.length ≤ N ∧ Below w.heap.size w w'

theorem box6 (w : World) (t : TypeId) (z0 z1 z2 z3 z4 z5 a0 a1 a2 a3 a4 a5 : Value) (X : World)
    (hX : X = ((((((w.alloc (.cells #[z0, z1, z2, z3, z4, z5] t)).setCell ⟨w.heap.size, 0, none⟩ a0).setCell ⟨w.heap.size, 1, none⟩ a1).setCell ⟨w.heap.size, 2, none⟩ a2).setCell ⟨w.heap.size, 3, none⟩ a3).setCell ⟨w.heap.size, 4, none⟩ a4).setCell ⟨w.heap.size, 5, none⟩ a5) :
    Blk X w.heap.size t #[a0, a1, a2, a3, a4, a5] ∧ Below w.heap.size w X ∧ X.heap.size = w.heap.size + 1 := by
  subst hX
  refine ⟨((((((Blk.new w t #[z0, z1, z2, z3, z4, z5]).set_ 0 a0).set_ 1 a1).set_ 2 a2).set_ 3 a3).set_ 4 a4).set_ 5 a5, ?_, by simp⟩
  exact ((((((((Below.refl w.heap.size w).alloc (Nat.le_refl _) _).setCell (Nat.le_refl _) _).setCell (Nat.le_refl _) _).setCell (Nat.le_refl _) _).setCell (Nat.le_refl _) _).setCell (Nat.le_refl _) _).setCell (Nat.le_refl _) _)

def keepT (p : PT) : Bool := !decide (p.tm.1 = 0)
def flt (ps : List PT) (k : Nat) : List PT := (ps.take k).filter keepT
theorem flt_yes {ps : List PT} {k : Nat} {p : PT} (hk : ps[k]? = some p) (h : p.tm.1 ≠ 0) : flt ps (k + 1) = flt ps k ++ [p] := by
  have hl : k < ps.length := (List.getElem?_eq_some_iff.1 hk).1
  have e : ps[k] = p := (List.getElem?_eq_some_iff.1 hk).2
  unfold flt
  rw [List.take_succ_eq_append_getElem hl, List.filter_append, e]
  simp [keepT, h]
theorem flt_no {ps : List PT} {k : Nat} {p : PT} (hk : ps[k]? = some p) (h : p.tm.1 = 0) : flt ps (k + 1) = flt ps k := by
  have hl : k < ps.length := (List.getElem?_eq_some_iff.1 hk).1
  have e : ps[k] = p := (List.getElem?_eq_some_iff.1 hk).2
  unfold flt
  rw [List.take_succ_eq_append_getElem hl, List.filter_append, e]
  simp [keepT, h]
theorem flt_len (ps : List PT) (k : Nat) : (flt ps k).length ≤ k := Nat.le_trans (List.length_filter_le _ _) (by simp; omega)
end Go.Proofs.YtpbapoanjkekmaaGreat

/- Contract of slices.SortFunc at terms, with the closure of gather.poly. -/
namespace Go.Proofs.YtpbapoanjkekmaaGreat
open Go.RowKit Go.Sort Go.Shelf Go.Lib

def cfT (x y : PT) : Int := cmpM y.m x.m
theorem ltT (x y : PT) : ltOf cfT x y = decide (ltM y.m x.m) := by
  unfold ltOf cfT
  rw [decide_eq_decide]
  exact cmpM_lt
theorem swoT : SWO (ltOf cfT) where
  irrefl x := by rw [ltT]; simp [ltM_irrefl]
  trans x y z h1 h2 := by
    rw [ltT] at *
    simp only [decide_eq_true_eq] at *
    exact ltM_trans h2 h1
  ntrans x y z h1 h2 := by
    rw [ltT] at *
    simp only [decide_eq_false_iff_not] at *
    intro h
    rcases ltM_tri y.m x.m with k | k | k
    · exact h1 k
    · rw [k] at h2; exact h2 h
    · exact h2 (ltM_trans h k)

set_option maxHeartbeats 1000000 in
theorem clo_any (p q : PT) (W : World) : Calls Tryz.prog 57 #[.agg p.cells.toArray, .agg q.cells.toArray] W fun e w' => e = .returned (.int .i64 (cfT p q)) ∧ ∃ k os', w' = grow (W.drewN k) os' := by
  have hc := fun W' => CMono_any q.m p.m W'
  have hl : Laid W ((W.alloc (.cells p.cells.toArray 56)).alloc (.cells q.cells.toArray 56)) := ((Laid.refl W).alloc _).alloc _
  unfold moV at hc
  unfold cfT
  generalize cmpM q.m p.m = r at *
  have HC := Lib.hid hc
  have HL := Lib.hid hl
  clear hc hl
  simp only [PT.cells] at *
  generalize p.m.1 = p0 at *
  generalize p.m.2.1 = p1 at *
  generalize p.m.2.2.1 = p2 at *
  generalize p.m.2.2.2 = p3 at *
  generalize q.m.1 = q0 at *
  generalize q.m.2.1 = q1 at *
  generalize q.m.2.2.1 = q2 at *
  generalize q.m.2.2.2 = q3 at *
  go_enter Tryz.func57, Tryz.ntmps57
  go_wp2_with (first | (go_at_call 58; refine (HC.out _).mono ?_; rintro e w' ⟨rfl, hl2⟩))
  go_ret
  exact ⟨rfl, HL.out.trans hl2⟩
theorem cmpLaysT (blk off size : Nat) (w : World) : CmpLays Tryz.prog 57 #[] PT.cells 6 cfT blk off size w :=
  fun _ _ _ _ x y => clo_any x y _
theorem cells_len (x : PT) : x.cells.length = 6 := rfl
theorem cells_one1 (x : PT) : ∀ v ∈ x.cells, v.oneCell' = true := by
  intro u hp
  simp [PT.cells] at hp
  rcases hp with rfl | rfl | rfl | rfl | rfl | rfl <;> rfl

set_option maxHeartbeats 2000000 in
set_option maxRecDepth 100000 in
theorem SortT_any (blk cap : Nat) (d : Array PT) (w : World) (hH : HoldsK PT.cells 6 w blk 0 d) (hblk : blk < w.heap.size) (hsz : d.size < 1000000) :
    Calls Tryz.prog 56 #[.slice (some ⟨blk, 0, none⟩) d.size cap, .func (.func 57) #[] #[]] w fun e w' =>
      e = .returned (.tuple #[]) ∧ ∃ d' n os, PermIn 0 d.size d d' ∧ SortedIn (ltOf cfT) 0 d.size d' ∧ w' = sortWorldK PT.cells 6 w blk 0 n d' os := by
  have eg : ∀ args w, (callFunc 57 args).run Tryz.prog w = .ok (.enter 57 args) w := enters_of Tryz.func57 (by kernel_rfl) rfl
  have hlim : Lib.bitLen d.size < 4611686018427387904 := Nat.lt_of_le_of_lt (Lib.bitLen_le d.size 62 (by omega) (by omega)) (by omega)
  have hp := AnyQ.pdqsortCmpFunc_all (P := Tryz.prog) (ρ := Tryz.pdqT_ren) Tryz.pdqT 6 Tryz.isAgg56 Tryz.sizeOf56 PT.cells cfT 57 #[] swoT blk 0 cap d w eg (cmpLaysT blk 0 d.size w) ⟨cells_len, cells_one1, hH, hblk⟩ (d.size + 1) 0 d.size (Lib.bitLen d.size) d w (by omega) rfl (SWK.start hH) (Nat.zero_le _) (Nat.le_refl _) (by omega) hlim (Or.inl rfl)
  have hl : Calls Tryz.prog 81 #[.int .u64 (d.size : Int)] w fun e w' => e = .returned (.int .i64 (Lib.bitLen d.size : Nat)) ∧ w' = w := by
    have h := Any.bits_Len (SlLaysF0.n15.bits (P := Tryz.prog) (ρ := Tryz.pdqT_ren) { Tryz.pdqT with }) (d.size : Int) w (by omega) (by omega)
    rwa [Int.toNat_natCast] at h
  have hq := pdq_sorts (ltOf cfT) swoT d 0 d.size (Lib.bitLen d.size) true true (Nat.zero_le _) (Nat.le_refl _) (Or.inl rfl)
  change Calls Tryz.prog 80 _ _ _ at hp
  have wr : IntKind.u64.wrap (d.size : Int) = d.size := by simp [IntKind.wrap, IntKind.bits, IntKind.signed]; omega
  have HP := Lib.hid hp; have HL := Lib.hid hl; have HQ := Lib.hid hq
  clear hH hp hl hq hlim
  go_enter Tryz.func56, Tryz.ntmps56
  go_wp2_with (first | (go_at_call 81; refine HL.out.mono ?_; rintro e w' ⟨rfl, rfl⟩) | (go_at_call 80; refine HP.out.mono ?_; rintro e w' ⟨rfl, n, os, rfl⟩))
  go_end0
  exact ⟨rfl, _, n, os, HQ.out.1, HQ.out.2, rfl⟩
end Go.Proofs.YtpbapoanjkekmaaGreat

/- What the sort leaves of a row of terms. -/
namespace Go.Proofs.YtpbapoanjkekmaaGreat
open Go.RowKit Go.Sort Go.Shelf Go.Lib

theorem getE_some {α : Type} [Inhabited α] {a : Array α} {i : Nat} {x : α} (h : a[i]? = some x) : a[i]! = x := by
  rw [getElem!_def, h]
theorem flatK_eq (ps : List PT) : (flatK PT.cells 6 ps.toArray).toList = ps.flatMap PT.cells := by
  apply List.ext_getElem?
  intro t
  by_cases h : t < ps.length * 6
  · have hlt : t / 6 < ps.length := by omega
    have h1 := get_flatK PT.cells 6 ps.toArray t (by simpa using h)
    have hp : ps[t / 6]? = some ps[t / 6] := List.getElem?_eq_getElem hlt
    have h2 := flat_at ps (t / 6) (t % 6) _ hp (by omega)
    have e : t / 6 * 6 + t % 6 = t := by omega
    rw [e] at h2
    rw [h2]
    have hs : t < (flatK PT.cells 6 ps.toArray).size := by simpa using h
    rw [Array.getElem?_toList, Array.getElem?_eq_getElem hs]
    rw [getElem!_pos _ t hs] at h1
    rw [h1]
    have e2 : ps.toArray[t / 6]! = ps[t / 6] := by simp [hlt]
    rw [e2]
    have hl : t % 6 < ps[t / 6].cells.length := by rw [cells_len]; omega
    rw [List.getElem?_eq_getElem hl, getElem!_pos _ (t % 6) hl]
  · rw [List.getElem?_eq_none (by simp; omega), List.getElem?_eq_none (by rw [flat_len]; omega)]
theorem heap_sortW {w : World} {g n : Nat} {os : Array Obj} {e : TypeId} {cur : Array Value} (ps : List PT) (hb : Blk w g e cur) : Blk (sortWorldK PT.cells 6 w g 0 n ps.toArray os) g e (putCells id 0 (flatK PT.cells 6 ps.toArray) cur) := by
  have hl := hb.lt
  unfold Blk at *
  unfold sortWorldK putRowK putRow
  rw [heap_grow_old _ _ (by simpa [mapBlock, ahead] using hl)]
  simp [mapBlock, Array.getElem?_modify, hb, onCells]
theorem far_sortW {w : World} {g n k : Nat} {os : Array Obj} (ps : List PT) (hk : k < w.heap.size) (hne : k ≠ g) : (sortWorldK PT.cells 6 w g 0 n ps.toArray os).heap[k]? = w.heap[k]? := by
  unfold sortWorldK putRowK putRow
  rw [heap_grow_old _ _ (by simpa [mapBlock, ahead] using hk)]
  have : g ≠ k := fun e => hne e.symm
  simp [mapBlock, Array.getElem?_modify, this]
theorem size_sortW (w : World) (g n : Nat) (os : Array Obj) (ps : List PT) : w.heap.size ≤ (sortWorldK PT.cells 6 w g 0 n ps.toArray os).heap.size := by
  unfold sortWorldK putRowK putRow
  rw [size_grow]
  simp [mapBlock]
theorem below_sortW {w : World} {base g n : Nat} {os : Array Obj} (ps : List PT) (hb : base ≤ w.heap.size) (hg : base ≤ g) : RowKit.Below base w (sortWorldK PT.cells 6 w g 0 n ps.toArray os) :=
  ⟨rfl, rfl, rfl, size_sortW .., fun _ hk => far_sortW ps (by omega) (by omega)⟩
theorem take_putK (cur : Array Value) (F : Array Value) (h : F.size ≤ cur.size) : (putCells id 0 F cur).toList.take F.size = F.toList := by
  apply List.ext_getElem?
  intro j
  by_cases hj : j < F.size
  · rw [List.getElem?_take_of_lt hj, Array.getElem?_toList]
    simp [putCells, hj, show j < cur.size by omega]
  · rw [List.getElem?_take_eq_none (by omega), List.getElem?_eq_none (by simp; omega)]
theorem own_sortW {w : World} {base g cap n : Nat} {os : Array Obj} {ps ps' : List PT} (hl : ps'.length = ps.length) (h : w.ownsRow base 56 6 (.slice (some ⟨g, 0, none⟩) ps.length cap) ps.length (ps.flatMap PT.cells)) :
    (sortWorldK PT.cells 6 w g 0 n ps'.toArray os).ownsRow base 56 6 (.slice (some ⟨g, 0, none⟩) ps'.length cap) ps'.length (ps'.flatMap PT.cells) := by
  obtain ⟨h0, h⟩ := h
  rcases h with ⟨h, _⟩ | ⟨g', cap', cur, hv, hb, hh, h1, h2, h3, h4⟩
  · cases h
  · injection hv with hv _ hc
    injection hv with hv
    injection hv with hv
    subst hv; subst hc
    have hF : (flatK PT.cells 6 ps'.toArray).size = ps'.length * 6 := by simp
    refine ⟨flat_len ps', .inr ⟨g, cap, _, rfl, hb, heap_sortW ps' hh, by omega, h2, by simp [putCells, h3], ?_⟩⟩
    have hle : ps'.length * 6 ≤ cap * 6 := by rw [hl]; exact Nat.mul_le_mul_right 6 h1
    rw [← flatK_eq, ← hF]
    exact take_putK cur _ (by rw [hF, h3]; exact hle)
theorem holds_own {w : World} {base g cap : Nat} {ps : List PT} (h : w.ownsRow base 56 6 (.slice (some ⟨g, 0, none⟩) ps.length cap) ps.length (ps.flatMap PT.cells)) : HoldsK PT.cells 6 w g 0 ps.toArray := by
  obtain ⟨cur, hk, _, _, hc⟩ := own_blk h
  intro j hj
  have hs : j < (flatK PT.cells 6 ps.toArray).size := hj
  refine ⟨?_, hk.frozen _⟩
  rw [hk.cell, Nat.zero_add]
  refine hc j _ ?_
  rw [← flatK_eq, Array.getElem?_toList, Array.getElem?_eq_getElem hs, id_eq, getElem!_pos _ j hs]
theorem perm_in {ps : List PT} {d' : Array PT} (h : PermIn 0 ps.toArray.size ps.toArray d') : d'.toList.Perm ps ∧ d'.size = ps.length := by
  obtain ⟨h1, _, h3⟩ := h
  refine ⟨?_, by simpa using h1⟩
  have e1 : (d'.extract 0 ps.toArray.size).toList = d'.toList := by rw [← h1]; simp
  have e2 : (ps.toArray.extract 0 ps.toArray.size).toList = ps := by simp
  rw [e1, e2] at h3
  exact h3
theorem sorted_in {ps : List PT} {d' : Array PT} (hs : d'.size = ps.length) (h : SortedIn (ltOf cfT) 0 ps.toArray.size d') : (d'.toList.map PT.tm).Pairwise fun s t => ¬ ltM s.2 t.2 := by
  rw [List.pairwise_iff_getElem]
  intro i j hi hj hij
  have hi' : i < d'.size := by simpa using hi
  have hj' : j < d'.size := by simpa using hj
  have := h i j (Nat.zero_le _) hij (by simp; omega)
  rw [ltT, getElem!_pos _ i hi', getElem!_pos _ j hj'] at this
  simp only [decide_eq_false_iff_not] at this
  simpa [PT.tm] using this
end Go.Proofs.YtpbapoanjkekmaaGreat
