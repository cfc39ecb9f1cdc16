/- Contracts of the package integer: signed, From. -/
import Derived.Test.YtpbapoanjkekmaaN8
namespace Go.Proofs.Ytpbapoanjkekmaa
open Go.RowKit

theorem Try.sizeInt : (Try.prog.info? 31).map (·.size) = some 2 := by kernel_rfl
theorem ret_blk {P : Program} {fn : Func} {Q : Ending → World → Prop} {a : Act} {w : World} {p : Tmp} {ty : TypeId} {g : Nat} {t : TypeId} {cs : Array Value} {d : TypeDesc} (hr : fn.results = #[.cell p ty]) (hdf : a.defers = []) (hp : a.tmps.getD p undef = .pointer (some ⟨g, 0, none⟩)) (hb : Blk w g t cs)
    (hu : P.underlying ty = some d) (hd : (match d with | .struct _ | .array _ _ => true | _ => false) = true) (hi : (P.info? ty).map (·.size) = some cs.size) (h : Q (.returned (.agg cs)) w) : bodyPost P fn Q Exit.ret a w :=
  bodyPost_ret (results_cell_row hr a.tmps w g t cs (0, 0) d hp hb hu hd hi) hdf h

set_option maxHeartbeats 400000 in
theorem signed_any (ng : Bool) (A : Option Addr) (n c : Nat) (w : World) :
    Calls Try.prog 50 #[.bool ng, .slice A n c] w fun e w' => e = .returned (.agg #[.bool (ng && decide (0 < n)), .slice A n c]) ∧ Below w.heap.size w w' := by
  cases ng
  · go_enter Try.func50, Try.ntmps50
    go_wp2
    exact ret_blk Try.results50 rfl rfl (Blk.new w _ _) Try.underlying31 rfl Try.sizeInt ⟨rfl, (Below.refl _ w).alloc (Nat.le_refl _) _⟩
  · by_cases h : 0 < n
    · have hb : decide ((0 : Int) < (n : Int)) = true := by simpa using h
      go_enter Try.func50, Try.ntmps50
      go_wp2
      exact ret_blk Try.results50 rfl rfl (Blk.new w _ _) Try.underlying31 rfl Try.sizeInt ⟨by simp [h], (Below.refl _ w).alloc (Nat.le_refl _) _⟩
    · obtain rfl : n = 0 := by omega
      go_enter Try.func50, Try.ntmps50
      go_wp2
      exact ret_blk Try.results50 rfl rfl (Blk.new w _ _) Try.underlying31 rfl Try.sizeInt ⟨rfl, (Below.refl _ w).alloc (Nat.le_refl _) _⟩

theorem NatB.far {w : World} {A : Option Addr} {ds : List Nat} (h : NatB w A ds) {g : Nat} {t : TypeId} {cs : Array Value} (hb : Blk w g t cs) (ht : t ≠ 70) (o : Nat) (u : Value) : NatB (w.setCell ⟨g, o, none⟩ u) A ds :=
  h.keep fun g' cs' k => k.far (by
    rintro rfl
    unfold Blk at k hb
    rw [k] at hb
    injection hb with hb
    injection hb with _ h1
    exact ht h1.symm) u
theorem NatB.store2 {w : World} {A : Option Addr} {ds : List Nat} (h : NatB w A ds) {g : Nat} {t : TypeId} {cs : Array Value} (hb : Blk w g t cs) (ht : t ≠ 70) (u v : Value) : NatB ((w.setCell ⟨g, 0, none⟩ u).setCell ⟨g, 1, none⟩ v) A ds :=
  (h.far hb ht 0 u).far (hb.set_ 0 u) ht 1 v
/-- the value of a sign and digits -/
def ival (ng : Bool) (ds : List Nat) : Int := if ng then -(val ds : Int) else (val ds : Int)
/-- a result: the canonical form of z, in memory -/
def IntRes (z : Int) (w : World) (e : Ending) (w' : World) : Prop :=
  ∃ A c, e = .returned (.agg #[.bool (decide (z < 0)), .slice A (dig z.natAbs).length c]) ∧ (dig z.natAbs).length ≤ c ∧ NatB w' A (dig z.natAbs) ∧ Below w.heap.size w w'
theorem ival_abs (ng : Bool) (ds : List Nat) : (ival ng ds).natAbs = val ds := by unfold ival; cases ng <;> simp
theorem ival_neg (ng : Bool) (ds : List Nat) : decide (ival ng ds < 0) = (ng && decide (0 < (dig (val ds)).length)) := by
  have : 0 < (dig (val ds)).length ↔ 0 < val ds := by
    have := @dig_len0 (val ds)
    omega
  unfold ival
  cases ng <;> simp [this]

set_option maxHeartbeats 400000 in
set_option maxRecDepth 100000 in
theorem From_any (ng : Bool) (A : Option Addr) (c B : Nat) (ds : List Nat) (w : World) (hB : B ≤ w.heap.size) (hc : ds.length ≤ c) (hm : ds.length ≤ 1000000) (hr : Reads w B 1 A ds.length (u32s ds)) (hd : Dig ds) :
    Calls Try.prog 63 #[.bool ng, .slice A ds.length c] w (IntRes (ival ng ds) w) := by
  have hbl0 := (Below.refl w.heap.size w).alloc (Nat.le_refl _) (.cells #[.bool false, .slice none 0 0] 31)
  have hn := Normal_any A c B ds _ (by simp; omega) hc hm (hr.below (hbl0.mono hB)) hd
  have e1 := ival_neg ng ds
  have e2 := ival_abs ng ds
  have hblk := Blk.new w 31 #[.bool false, .slice none 0 0]
  unfold IntRes
  rw [e1, e2]
  clear e1 e2
  unfold NatRes at hn
  generalize dig (val ds) = es at *
  have HN := Lib.hid hn
  have HBL := Lib.hid hbl0; have HBK := Lib.hid hblk
  clear hn hbl0 hblk
  go_enter Try.func63, Try.ntmps63
  go_wp2_with fail
  refine HN.out.mono ?_
  rintro e w1 ⟨A1, c1, rfl, h1, h2, h3⟩
  have hs := signed_any ng A1 es.length c1 w1
  generalize hgg : (ng && decide (0 < es.length)) = g at *
  have HGG := Lib.hid hgg; clear hgg
  have HS := Lib.hid hs; clear hs
  go_wp2_with fail
  refine HS.out.mono ?_
  rintro e w2 ⟨rfl, h4⟩
  have hk := (HBK.out.old h3).old h4
  have d0 : w2.cell? ⟨w.heap.size, 0, none⟩ = some (.bool false) := (hk.cell 0).trans rfl
  have d1 : w2.cell? ⟨w.heap.size, 1, none⟩ = some (.slice none 0 0) := (hk.cell 1).trans rfl
  have f0 := hk.frozen 0
  have f1 := hk.frozen 1
  have z0 := hk.lt
  go_wp2_with fail
  have hnb := h2.old h4
  have hbel := (HBL.out.trans (h3.mono (by simp))).trans (h4.mono (by have := h3.size; simp at this; omega))
  exact ret_blk Try.results63 rfl rfl ((hk.set_ 0 _).set_ 1 _) Try.underlying31 rfl Try.sizeInt ⟨A1, c1, by rw [HGG.out]; rfl, h1, hnb.store2 hk (by decide) _ _, (hbel.setCell (Nat.le_refl _) _).setCell (Nat.le_refl _) _⟩
end Go.Proofs.Ytpbapoanjkekmaa
