/- Contract of slices.SortStableFunc at at most 19 terms, with the closure of Substitute: it sorts by one exponent. -/
import Derived.IntWalk
import Derived.Sort.LotA
import Derived.Test.YtpbapoanjkekmaaGreatGA
namespace Go.Proofs.YtpbapoanjkekmaaGreat
open Go.RowKit Go.Sort Go.Shelf Go.Lib

def cfS (i : Nat) (x y : PT) : Int := cmpI (gt x.m i) (gt y.m i)
theorem cmpI_lt {a b : Int} : cmpI a b < 0 ↔ a < b := by unfold cmpI; split <;> (try split) <;> omega
theorem ltS (i : Nat) (x y : PT) : ltOf (cfS i) x y = decide (gt x.m i < gt y.m i) := by
  unfold ltOf cfS
  rw [decide_eq_decide]
  exact cmpI_lt
theorem swoS (i : Nat) : SWO (ltOf (cfS i)) where
  irrefl x := by rw [ltS]; simp
  trans x y z h1 h2 := by
    rw [ltS] at *
    simp only [decide_eq_true_eq] at *
    omega
  ntrans x y z h1 h2 := by
    rw [ltS] at *
    simp only [decide_eq_false_iff_not] at *
    omega
theorem PT.cell_at (p : PT) {j : Nat} (hj : j < 4) : p.cells[2 + j]? = some (.int .i64 (Go.Proofs.YtpbapoanjkekmaaGreat.gt p.m j)) := by
  rcases (by omega : j = 0 ∨ j = 1 ∨ j = 2 ∨ j = 3) with rfl | rfl | rfl | rfl <;> rfl
set_option maxHeartbeats 2000000 in
set_option maxRecDepth 100000 in
theorem cloS_any (i b7 : Nat) (hi : i < 4) (p q : PT) (W : World) (hk : Blk W b7 3 #[.int .i64 (i : Int)]) : Calls Tryz.prog 50 #[.agg p.cells.toArray, .agg q.cells.toArray, .pointer (some ⟨b7, 0, none⟩)] W fun e w' => e = .returned (.int .i64 (cfS i p q)) ∧ ∃ k os', w' = grow (W.drewN k) os' := by
  obtain ⟨hb0, k0, k1, _⟩ := boxes2 W 56 56 p.cells.toArray q.cells.toArray
  have hl : Laid W ((W.alloc (.cells p.cells.toArray 56)).alloc (.cells q.cells.toArray 56)) := ((Laid.refl W).alloc _).alloc _
  have HL := Lib.hid hl
  have k7 := hk.old hb0
  have c7 := k7.cell 0
  have c0 : ((W.alloc (.cells p.cells.toArray 56)).alloc (.cells q.cells.toArray 56)).cell? ⟨W.heap.size, 2 + i, none⟩ = some (.int .i64 (gt p.m i)) := (k0.cell (2 + i)).trans (by simpa using p.cell_at hi)
  have c1 : ((W.alloc (.cells p.cells.toArray 56)).alloc (.cells q.cells.toArray 56)).cell? ⟨W.heap.size + 1, 2 + i, none⟩ = some (.int .i64 (gt q.m i)) := (k1.cell (2 + i)).trans (by simpa using q.cell_at hi)
  have HQ := Lib.hid (fun W' => cmpInt_any (gt p.m i) (gt q.m i) W')
  unfold cfS
  have i0 : (0 : Int) ≤ (i : Int) := by omega
  have i1 : (i : Int) < 4 := by omega
  have l7 := k7.lt
  clear k0 k1 hl hk k7 hb0
  generalize cmpI (gt p.m i) (gt q.m i) = z at *
  generalize gt p.m i = x at *
  generalize gt q.m i = y at *
  simp only [PT.cells] at *
  go_enter Tryz.func50, Tryz.ntmps50
  go_wp2_with fail
  generalize (W.alloc (.cells #[.bool p.ng, .slice p.A p.ds.length p.c, .int .i64 p.m.1, .int .i64 p.m.2.1, .int .i64 p.m.2.2.1, .int .i64 p.m.2.2.2] 56)).alloc (.cells #[.bool q.ng, .slice q.A q.ds.length q.c, .int .i64 q.m.1, .int .i64 q.m.2.1, .int .i64 q.m.2.2.1, .int .i64 q.m.2.2.2] 56) = W2 at *
  go_quiet ((go_at_call 51; exact Drawn.quiet ((HQ.out _).mono fun _ _ ⟨he, hw⟩ => ⟨he, hw ▸ Drawn.refl _⟩)))
  go_wp2_with fail
  go_ret
  exact ⟨rfl, HL.out.drewN _⟩
theorem blk_ne {w : World} {a b : Nat} {t t' : TypeId} {cs cs' : Array Value} (h : Blk w a t cs) (h' : Blk w b t' cs') (hne : t ≠ t') : a ≠ b := fun e => by
  subst e
  unfold Blk at h h'
  rw [h] at h'
  injection h' with h'
  injection h' with _ h'
  exact hne h'
theorem blk_sortW {w : World} {b7 g n : Nat} {os : Array Obj} {t : TypeId} {cs : Array Value} (ps : List PT) (hk : Blk w b7 t cs) (hne : b7 ≠ g) : Blk (sortWorldK PT.cells 6 w g 0 n ps.toArray os) b7 t cs := (far_sortW ps hk.lt hne).trans hk
theorem cmpLaysS (i b7 : Nat) (hi : i < 4) (blk size : Nat) (w : World) (hk : Blk w b7 3 #[.int .i64 (i : Int)]) (hne : b7 ≠ blk) : CmpLays Tryz.prog 50 #[.pointer (some ⟨b7, 0, none⟩)] PT.cells 6 (cfS i) blk 0 size w := by
  intro m os dk _ x y
  have h := blk_sortW (g := blk) (n := m) (os := os) dk.toList hk hne
  rw [Array.toArray_toList] at h
  exact cloS_any i b7 hi x y _ h
/-- sorted by one exponent -/
def SortedS (i : Nat) (ps : List PT) : Prop := ps.Pairwise fun s t => gt s.m i ≤ gt t.m i
theorem ins_any (i b7 blk cap : Nat) (hi : i < 4) (ps : List PT) (w : World) (hH : HoldsK PT.cells 6 w blk 0 ps.toArray) (hblk : blk < w.heap.size) (hk : Blk w b7 3 #[.int .i64 (i : Int)]) (hne : b7 ≠ blk) (hlen : ps.length < 1000000) :
    Calls Tryz.prog 91 #[.slice (some ⟨blk, 0, none⟩) ps.length cap, .int .i64 0, .int .i64 (ps.length : Int), .func (.func 50) #[] #[.pointer (some ⟨b7, 0, none⟩)]] w fun e w' =>
      e = .returned (.tuple #[]) ∧ ∃ (ps' : List PT) (n : Nat) (os : Array Obj), ps'.Perm ps ∧ SortedS i ps' ∧ w' = sortWorldK PT.cells 6 w blk 0 n ps'.toArray os := by
  have eg : ∀ args w, (callFunc 50 args).run Tryz.prog w = .ok (.enter 50 args) w := enters_of Tryz.func50 (by kernel_rfl) rfl
  have h := AnyQ.insertionSortCmpFunc (P := Tryz.prog) (ρ := Tryz.pdqT_ren) { Tryz.pdqT with } 6 Tryz.isAgg56 Tryz.sizeOf56 PT.cells cells_len cells_one1 (cfS i) 50 #[.pointer (some ⟨b7, 0, none⟩)] blk 0 cap 0 ps.toArray.size ps.toArray w eg (cmpLaysS i b7 hi blk _ w hk hne) hH hblk (Nat.zero_le _) (Nat.le_refl _) (by simp; omega)
  have hs := insertionSort_holds (lt := ltOf (cfS i)) (swoS i) ps.toArray 0 ps.toArray.size (Nat.zero_le _) (Nat.le_refl _)
  have h' : Calls Tryz.prog 91 #[.slice (some ⟨blk, 0, none⟩) ps.length cap, .int .i64 0, .int .i64 (ps.length : Int), .func (.func 50) #[] #[.pointer (some ⟨b7, 0, none⟩)]] w _ := h
  refine h'.mono fun e w' ⟨he, n, os, hw⟩ => ⟨he, (insertionSort (ltOf (cfS i)) ps.toArray 0 ps.toArray.size).toList, n, os, (perm_in hs.1).1, ?_, by rw [Array.toArray_toList]; exact hw⟩
  have hsz := (perm_in hs.1).2
  unfold SortedS
  rw [List.pairwise_iff_getElem]
  intro a b ha hb hab
  have ha' : a < (insertionSort (ltOf (cfS i)) ps.toArray 0 ps.toArray.size).size := by simpa using ha
  have hb' : b < (insertionSort (ltOf (cfS i)) ps.toArray 0 ps.toArray.size).size := by simpa using hb
  have := hs.2 a b (Nat.zero_le _) hab (by simp; omega)
  rw [ltS, getElem!_pos _ a ha', getElem!_pos _ b hb'] at this
  simp only [decide_eq_false_iff_not] at this
  simp only [Array.getElem_toList]
  omega
set_option maxHeartbeats 2000000 in
set_option maxRecDepth 100000 in
theorem stab_of (v u : Value) (n : Nat) (hn : n ≤ 19) (w : World) (Post : Ending → World → Prop) (h : Calls Tryz.prog 91 #[v, .int .i64 0, .int .i64 (n : Int), u] w fun e w' => e = .returned (.tuple #[]) ∧ Post e w') : Calls Tryz.prog 71 #[v, .int .i64 (n : Int), u] w fun e w' => e = .returned (.tuple #[]) ∧ Post e w' := by
  have H := Lib.hid h
  clear h
  have i1 : ¬ ((20 : Int) ≤ (n : Int)) := by omega
  have i2 : ¬ ((20 : Int) < (n : Int)) := by omega
  go_enter Tryz.func71, Tryz.ntmps71
  go_wp2_with fail
  go_loopg [7, 8] 0 (fun gn a b wr => gn = 0 ∧ a = .int .i64 0 ∧ b = .int .i64 20 ∧ w = wr)
  case atStart => exact ⟨rfl, rfl, rfl, rfl⟩
  case round =>
    obtain ⟨_, rfl, rfl, rfl⟩ := hrel
    go_wp2_with fail
    refine H.out.mono ?_
    rintro e w1 ⟨rfl, hp⟩
    have HP := Lib.hid hp
    clear hp H
    go_wp2_with fail
    go_loopg [6, 7, 8, 9] 0 (fun gn a b c d wr => gn = 0 ∧ a = .int .i64 20 ∧ w1 = wr)
    case atStart => exact ⟨rfl, rfl, rfl⟩
    case round =>
      obtain ⟨_, rfl, rfl⟩ := hrel
      go_wp2_with fail
      go_end0
      exact ⟨rfl, HP.out⟩
set_option maxHeartbeats 2000000 in
set_option maxRecDepth 100000 in
theorem stable_of (A : Option Addr) (n c : Nat) (u : Value) (hn : n ≤ 19) (w : World) (Post : Ending → World → Prop) (h : Calls Tryz.prog 91 #[.slice A n c, .int .i64 0, .int .i64 (n : Int), u] w fun e w' => e = .returned (.tuple #[]) ∧ Post e w') : Calls Tryz.prog 49 #[.slice A n c, u] w fun e w' => e = .returned (.tuple #[]) ∧ Post e w' := by
  have H := Lib.hid (stab_of _ u n hn w Post h)
  clear h
  go_enter Tryz.func49, Tryz.ntmps49
  go_wp2_with fail
  refine H.out.mono ?_
  rintro e w1 ⟨rfl, hp⟩
  have HP := Lib.hid hp
  clear hp H
  go_wp2_with fail
  go_end0
  exact ⟨rfl, HP.out⟩
/-- what the sort leaves -/
def SortRes (i b7 base : Nat) (A : Option Addr) (c : Nat) (ps : List PT) (w : World) (e : Ending) (w' : World) : Prop :=
  e = .returned (.tuple #[]) ∧ ∃ ps' : List PT, ps'.Perm ps ∧ SortedS i ps' ∧ POwn w' base (.slice A ps'.length c) ps' ∧ Blk w' b7 3 #[.int .i64 (i : Int)] ∧ Below base w w'
theorem SortS_any (i b7 base : Nat) (A : Option Addr) (c : Nat) (ps : List PT) (w : World) (hi : i < 4) (h : POwn w base (.slice A ps.length c) ps) (hbase : base ≤ w.heap.size) (hk : Blk w b7 3 #[.int .i64 (i : Int)]) (hlen : ps.length ≤ 19) :
    Calls Tryz.prog 49 #[.slice A ps.length c, .func (.func 50) #[] #[.pointer (some ⟨b7, 0, none⟩)]] w (SortRes i b7 base A c ps w) := by
  by_cases h0 : ps.length = 0
  · obtain rfl : ps = [] := List.eq_nil_of_length_eq_zero h0
    have := stable_of A 0 c (.func (.func 50) #[] #[.pointer (some ⟨b7, 0, none⟩)]) (by omega) w (fun e w' => w = w') (ins_nil _ _ _)
    refine this.mono fun e w' ⟨he, hw⟩ => ⟨he, [], List.Perm.refl _, List.Pairwise.nil, ?_, ?_, ?_⟩
    · rw [← hw]; exact h
    · rw [← hw]; exact hk
    · rw [← hw]; exact Below.refl _ _
  · obtain ⟨rb, rcap, hv', hbr, hrl⟩ := h.row.form (by omega)
    injection hv' with e1 _ e2
    subst e1
    subst e2
    obtain ⟨cur, hkr, _⟩ := own_blk h.row
    have hne : b7 ≠ rb := blk_ne hk hkr (by decide)
    have hH := holds_own h.row
    have hi' := ins_any i b7 rb c hi ps w hH hrl hk hne (by omega)
    have hc := stable_of (some ⟨rb, 0, none⟩) ps.length c (.func (.func 50) #[] #[.pointer (some ⟨b7, 0, none⟩)]) hlen w (fun e w' => ∃ (ps' : List PT) (n : Nat) (os : Array Obj), ps'.Perm ps ∧ SortedS i ps' ∧ w' = sortWorldK PT.cells 6 w rb 0 n ps'.toArray os) hi'
    refine hc.mono fun e w' ⟨he, ps', n, os, hp, hs, hw⟩ => ?_
    subst hw
    refine ⟨he, ps', hp, hs, ⟨own_sortW hp.length_eq h.row, fun q hq => ?_, fun q hq => h.cn q (hp.mem_iff.1 hq)⟩, blk_sortW ps' hk hne, below_sortW ps' hbase hbr⟩
    have hq' := hp.mem_iff.1 hq
    exact ⟨(h.dg q hq').1.keep fun g cs hb => blk_sortW ps' hb (blk_ne hb hkr (by decide)), (h.dg q hq').2⟩
end Go.Proofs.YtpbapoanjkekmaaGreat
