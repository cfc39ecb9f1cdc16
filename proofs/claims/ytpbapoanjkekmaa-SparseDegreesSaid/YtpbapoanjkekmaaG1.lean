/- Words for polynomials in memory: placed terms; a slice of terms that is read; a gather. -/
import Derived.Test.YtpbapoanjkekmaaMM
namespace Go.Proofs.Ytpbapoanjkekmaa
open Go.RowKit

structure PT where
  ng : Bool
  ds : List Nat
  A : Option Addr
  c : Nat
  m : Mo
instance : Inhabited PT := ⟨⟨false, [], none, 0, (0, 0, 0, 0)⟩⟩
def PT.tm (p : PT) : Tm := (ival p.ng p.ds, p.m)
def PT.cells (p : PT) : List Value := [.bool p.ng, .slice p.A p.ds.length p.c, .int .i64 p.m.1, .int .i64 p.m.2.1, .int .i64 p.m.2.2.1, .int .i64 p.m.2.2.2]
/-- the canonical integer z at a place -/
def mkP (z : Int) (A : Option Addr) (c : Nat) (m : Mo) : PT := ⟨decide (z < 0), dig z.natAbs, A, c, m⟩
def Cn (p : PT) : Prop := ∃ z, p = mkP z p.A p.c p.m
theorem ival_dig (z : Int) : ival (decide (z < 0)) (dig z.natAbs) = z := by
  unfold ival
  rw [val_dig]
  by_cases h : z < 0 <;> simp [h] <;> omega
theorem mkP_tm (z : Int) (A : Option Addr) (c : Nat) (m : Mo) : (mkP z A c m).tm = (z, m) := by simp [mkP, PT.tm, ival_dig]
theorem Cn.eq {p : PT} (h : Cn p) : p = mkP p.tm.1 p.A p.c p.m := by
  obtain ⟨z, hz⟩ := h
  have : p.tm.1 = z := by rw [hz, mkP_tm]
  rw [this]
  exact hz
theorem Cn.ng {p : PT} (h : Cn p) : p.ng = decide (p.tm.1 < 0) := by
  have e := congrArg PT.ng h.eq
  exact e
theorem Cn.ds {p : PT} (h : Cn p) : p.ds = dig p.tm.1.natAbs := by
  have e := congrArg PT.ds h.eq
  exact e
theorem mkP_cn (z : Int) (A : Option Addr) (c : Nat) (m : Mo) : Cn (mkP z A c m) := ⟨z, rfl⟩

theorem flat_len (ps : List PT) : (ps.flatMap PT.cells).length = ps.length * 6 := by
  induction ps with
  | nil => rfl
  | cons p ps ih => rw [List.flatMap_cons, List.length_append, ih]; simp [PT.cells]; omega
theorem flat_at (ps : List PT) (i j : Nat) (p : PT) (hi : ps[i]? = some p) (hj : j < 6) : (ps.flatMap PT.cells)[i * 6 + j]? = p.cells[j]? := by
  induction ps generalizing i with
  | nil => simp at hi
  | cons q ps ih =>
    rw [List.flatMap_cons]
    match i, hi with
    | 0, hi =>
      simp at hi
      subst hi
      rw [List.getElem?_append_left (by simp [PT.cells]; omega)]
      simp
    | i + 1, hi =>
      rw [List.getElem?_append_right (by simp [PT.cells]; omega)]
      have := ih i (by simpa using hi)
      rw [← this]
      congr 1
      simp [PT.cells]
      omega
theorem cells_one (ps : List PT) : ∀ u ∈ ps.flatMap PT.cells, u.oneCell' = true := by
  intro u hu
  obtain ⟨p, _, hp⟩ := List.mem_flatMap.1 hu
  simp [PT.cells] at hp
  rcases hp with rfl | rfl | rfl | rfl | rfl | rfl <;> rfl

/-- a slice of terms that the call may read: all of it below the block B -/
structure PolyIn (w : World) (B : Nat) (A : Option Addr) (ps : List PT) : Prop where
  rd : Reads w B 6 A ps.length (ps.flatMap PT.cells)
  nt : ∀ p ∈ ps, NatIn w B p.A p.c p.ds
theorem PolyIn.below {w w' : World} {B : Nat} {A : Option Addr} {ps : List PT} (h : PolyIn w B A ps) (hb : Below B w w') : PolyIn w' B A ps := ⟨h.rd.below hb, fun p hp => (h.nt p hp).below hb⟩
theorem PolyIn.more {w : World} {B B' : Nat} {A : Option Addr} {ps : List PT} (h : PolyIn w B A ps) (hB : B ≤ B') : PolyIn w B' A ps := ⟨h.rd.more hB, fun p hp => (h.nt p hp).more hB⟩
theorem PolyIn.old {w w' : World} {A : Option Addr} {ps : List PT} (h : PolyIn w w.heap.size A ps) (hb : Below w.heap.size w w') : PolyIn w' w'.heap.size A ps := (h.below hb).more hb.size
/-- the cells of a term -/
theorem PolyIn.at_ {w : World} {B : Nat} {A : Option Addr} {ps : List PT} (h : PolyIn w B A ps) {k : Nat} {p : PT} (hk : ps[k]? = some p) :
    ∃ b o, A = some ⟨b, o, none⟩ ∧ b < B ∧ w.cell? ⟨b, o + k * 6, none⟩ = some (.bool p.ng) ∧ w.cell? ⟨b, o + k * 6 + 1, none⟩ = some (.slice p.A p.ds.length p.c) ∧
      w.cell? ⟨b, o + k * 6 + 2, none⟩ = some (.int .i64 p.m.1) ∧ w.cell? ⟨b, o + k * 6 + 3, none⟩ = some (.int .i64 p.m.2.1) ∧ w.cell? ⟨b, o + k * 6 + 4, none⟩ = some (.int .i64 p.m.2.2.1) ∧ w.cell? ⟨b, o + k * 6 + 5, none⟩ = some (.int .i64 p.m.2.2.2) := by
  have hl : k < ps.length := (List.getElem?_eq_some_iff.1 hk).1
  obtain ⟨b, o, e, hb, hc⟩ := h.rd.2 (by omega)
  have f := fun j hj u (hu : p.cells[j]? = some u) => hc (k * 6 + j) u ((flat_at ps k j p hk hj).trans hu)
  exact ⟨b, o, e, hb, f 0 (by omega) _ rfl, f 1 (by omega) _ rfl, f 2 (by omega) _ rfl, f 3 (by omega) _ rfl, f 4 (by omega) _ rfl, f 5 (by omega) _ rfl⟩

/-! ### sizes -/
def pw (k : Nat) : Nat := 4294967296 ^ k
def Big : Nat := pw 600
theorem dig_len_pw {v k : Nat} (h : v < pw k) : (dig v).length ≤ k := dig_len_lt (n := k) h
theorem dig_len_big {v : Nat} (h : v < Big) : (dig v).length ≤ 600 := dig_len_pw h

/-! ### a gather -/
def IdxOk (ps : List PT) (f : Mo → Option Nat) : Prop := (∀ m i, f m = some i → ∃ p, ps[i]? = some p ∧ p.m = m) ∧ ∀ m, f m = none → ∀ p ∈ ps, p.m ≠ m
structure GAt (w : World) (base g mb : Nat) (v : Value) (ps : List PT) : Prop where
  gb : Blk w g 95 #[.map (some mb), v]
  mp : ∃ f, MMap w mb ps.length f ∧ IdxOk ps f
  row : w.ownsRow base 35 6 v ps.length (ps.flatMap PT.cells)
  dg : ∀ p ∈ ps, NatB w p.A p.ds ∧ p.ds.length ≤ p.c
  cn : ∀ p ∈ ps, Cn p
  lg : base ≤ g
  lm : base ≤ mb
/-- what a gather's doing leaves alone: what lies below its blocks, and every block of another kind -/
structure GTurn (base : Nat) (w w' : World) : Prop where
  below : Below base w w'
  far : ∀ k t cs, Blk w k t cs → t ≠ 95 → t ≠ 35 → Blk w' k t cs
theorem GTurn.refl (base : Nat) (w : World) : GTurn base w w := ⟨Below.refl _ _, fun _ _ _ h _ _ => h⟩
theorem GTurn.trans {base : Nat} {a b c : World} (h : GTurn base a b) (k : GTurn base b c) : GTurn base a c := ⟨h.below.trans k.below, fun x t cs hx h1 h2 => k.far x t cs (h.far x t cs hx h1 h2) h1 h2⟩
theorem GTurn.of_below {base : Nat} {w w' : World} (hb : base ≤ w.heap.size) (h : Below w.heap.size w w') : GTurn base w w' := ⟨h.mono hb, fun _ _ _ k _ _ => k.old h⟩
theorem GTurn.natB {base : Nat} {w w' : World} (h : GTurn base w w') {A : Option Addr} {ds : List Nat} (k : NatB w A ds) : NatB w' A ds := k.keep fun g cs hb => h.far g _ cs hb (by decide) (by decide)
theorem GTurn.set_g {base : Nat} {w : World} {g o : Nat} {cs : Array Value} (hb : base ≤ g) (hg : Blk w g 95 cs) (u : Value) : GTurn base w (w.setCell ⟨g, o, none⟩ u) :=
  ⟨(Below.refl base w).setCell hb u, fun k t cs' h h1 _ => h.far (by
    rintro rfl
    unfold Blk at h hg
    rw [h] at hg
    injection hg with hg
    injection hg with _ e
    exact h1 e) u⟩
theorem GTurn.set_t {base : Nat} {w : World} {g o : Nat} {cs : Array Value} (hb : base ≤ g) (hg : Blk w g 35 cs) (u : Value) : GTurn base w (w.setCell ⟨g, o, none⟩ u) :=
  ⟨(Below.refl base w).setCell hb u, fun k t cs' h _ h2 => h.far (by
    rintro rfl
    unfold Blk at h hg
    rw [h] at hg
    injection hg with hg
    injection hg with _ e
    exact h2 e) u⟩
theorem own_row_far {w : World} {base n size : Nat} {e t : TypeId} {v : Value} {xs : List Value} (h : w.ownsRow base e size v n xs) {k : Nat} {cs : Array Value} (hk : Blk w k t cs) (hne : t ≠ e) : some k ≠ v.ownBlock := own_blk_ne h hk (Ne.symm hne)
theorem GTurn.grown {base : Nat} {w w' : World} {v : Value} {n : Nat} {xs : List Value} (hb : base ≤ w.heap.size) (hown : w.ownsRow base 35 6 v n xs) (hg : w.grownBy w' v.ownBlock) : GTurn base w w' := by
  refine ⟨(Below.refl base w).grown hg hb ?_, fun k t cs h _ h2 => h.grown hg (own_row_far hown h h2)⟩
  intro k hk
  rcases hown.2 with ⟨rfl, _⟩ | ⟨g', cap, cur, rfl, h1, _⟩
  · simp [Value.ownBlock] at hk
  · simp [Value.ownBlock] at hk; omega
theorem GTurn.map_ {base : Nat} {w w' : World} {b n : Nat} {f : Mo → Option Nat} (hb : base ≤ w.heap.size) (hm : MMap w b n f) (hlb : base ≤ b) (hg : w.grownBy w' (some b)) : GTurn base w w' := by
  refine ⟨(Below.refl base w).grown hg hb (fun k hk => by injection hk with hk; omega), fun k t cs h _ _ => h.grown hg (fun e => ?_)⟩
  injection e with e
  exact hm.ne_blk h e.symm
end Go.Proofs.Ytpbapoanjkekmaa
