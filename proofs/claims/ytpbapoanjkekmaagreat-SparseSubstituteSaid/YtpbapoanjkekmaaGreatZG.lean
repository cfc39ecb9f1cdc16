/- A map from monomials to ints that the call itself made, seen as a function. -/
import Derived.Maps.Own
import Derived.Maps.OwnOps
import Derived.Maps.OwnSet
import Derived.DeepKeys4
import Derived.StillTailTactics
import Derived.RangeFuncOwn
import Derived.Test.YtpbapoanjkekmaaGreatM1
namespace Go.Proofs.YtpbapoanjkekmaaGreat
open Go.RowKit Go.Maps

def WfI (x : Int) : Prop := -9223372036854775808 ≤ x ∧ x ≤ 9223372036854775807
def WfM (m : Mo) : Prop := WfI m.1 ∧ WfI m.2.1 ∧ WfI m.2.2.1 ∧ WfI m.2.2.2
theorem wf_of {x : Int} (h : WfI x) : (Lit.int .i64 x).wf = true := by
  obtain ⟨h1, h2⟩ := h
  simp [Lit.wf, IntKind.min, IntKind.max, IntKind.signed, IntKind.bits]
  omega

theorem Tryz.laidOut : laidOutB Tryz.prog = true := by kernel_rfl
theorem Tryz.rowMono : (44 : TypeId) < Tryz.prog.types.size := of_decide_eq_true (by kernel_rfl)
theorem Tryz.wideMono : (match Tryz.prog.underlying 44 with | some (.array _ _) | some (.struct _) => true | _ => false) = true := by rw [Tryz.underlying44]
set_option maxRecDepth 100000 in
theorem Tryz.keyAt2 : Tryz.prog.keyTypeAt 2 44 = true := by kernel_rfl
set_option maxRecDepth 100000 in
theorem Tryz.lawMono : Keyed Tryz.prog 44 := Keyed.of_law (deep_law_laid Tryz.laidOut (m := 2) (by decide) Tryz.rowMono Tryz.keyAt2 Tryz.wideMono)
theorem Tryz.cellsMono : Tryz.prog.cellsOf 44 = 4 := by kernel_rfl
theorem Tryz.cellsI : Tryz.prog.cellsOf 3 = 1 := by kernel_rfl
theorem Tryz.keyTMono : Tryz.prog.keyType 44 = true := by kernel_rfl
theorem Tryz.zeroI (w : World) : (zeroValue 3).run Tryz.prog w = .ok (.int .i64 0) w := by kernel_rfl
theorem pos_of {a n : Nat} (h : a < n) : ∃ k, n = k + 1 := ⟨n - 1, by omega⟩
set_option maxRecDepth 100000 in
theorem Tryz.typesPos : ∃ n, Tryz.prog.types.size = n + 1 := pos_of Tryz.rowMono

theorem key_ex (m : Mo) (h : WfM m) : ∃ l, keyOf Tryz.prog 44 (.agg (moV m)) = some l := by
  obtain ⟨h0, h1, h2, h3⟩ := h
  have w0 := wf_of h0; have w1 := wf_of h1; have w2 := wf_of h2; have w3 := wf_of h3
  obtain ⟨n, hn⟩ := Tryz.typesPos
  have hf : (Value.agg (moV m)).formed Tryz.prog 44 = true := by simp [Value.formed, Tryz.underlying44, Tryz.cellsMono, moV]
  have hr : List.range 4 = [0, 1, 2, 3] := by decide
  refine ⟨.string (keyBytes [.int .i64 m.1, .int .i64 m.2.1, .int .i64 m.2.2.1, .int .i64 m.2.2.2]), ?_⟩
  unfold keyOf
  rw [Tryz.underlying44]
  simp only [Tryz.keyTMono, hf, Bool.and_self, if_true, Value.cells]
  unfold moV
  rw [hn]
  unfold Program.keyLits
  rw [Tryz.underlying44]
  simp only [List.length_cons, List.length_nil, Tryz.cellsMono, Tryz.cellsI, hr]
  simp [Program.keyLits, Tryz.underlying3, w0, w1, w2, w3]
/-- what a monomial reads as -/
noncomputable def klit (m : Mo) : Lit := (keyOf Tryz.prog 44 (.agg (moV m))).getD .nil
theorem key_lit {m : Mo} (h : WfM m) : keyOf Tryz.prog 44 (.agg (moV m)) = some (klit m) := by
  obtain ⟨l, hl⟩ := key_ex m h
  rw [hl]
  simp [klit, hl]
theorem klit_inj {m m' : Mo} (h : WfM m) (h' : WfM m') (e : klit m = klit m') : m = m' := by
  have h1 := key_lit h
  have h2 := key_lit h'
  rw [e] at h1
  have := Tryz.lawMono.inj h1 h2
  simp [moV] at this
  obtain ⟨a, b, c, d⟩ := this
  exact Prod.ext a (Prod.ext b (Prod.ext c d))

def MMap (w : World) (b n : Nat) (f : Mo → Option Nat) : Prop :=
  ∃ D : DataW Unit, w.ownsMap Tryz.prog 44 (plainElem Tryz.prog 3) b n D ∧ IsMap D ∧ ∀ m, WfM m → Maps.has D (klit m) = (f m).isSome ∧ D.atKey (klit m) (.lit (.int .i64 0)) = .lit (.int .i64 (((f m).getD 0 : Nat) : Int))

section
variable {w w' : World} {b n : Nat} {f : Mo → Option Nat}
theorem MMap_made (w : World) : MMap (w.alloc (.map #[] 0)) w.heap.size 0 (fun _ => none) :=
  ⟨.map [], World.ownsMap_made w Tryz.prog 44 _, isMap_empty, fun _ _ => ⟨rfl, rfl⟩⟩
theorem MMap.kept {row : Option Nat} (h : MMap w b n f) (hg : w.grownBy w' row) (hne : some b ≠ row) : MMap w' b n f := by
  obtain ⟨D, h1, h2, h3⟩ := h
  exact ⟨D, h1.kept hg hne, h2, h3⟩
theorem MMap.old (h : MMap w b n f) (hb : Below w.heap.size w w') : MMap w' b n f :=
  h.kept (row := none) ⟨hb.os, hb.tape, hb.output, hb.size, fun k hk _ => hb.block k hk⟩ (by simp)
theorem MMap.set_ (h : MMap w b n f) {a : Addr} (ha : b ≠ a.block) (u : Value) : MMap (w.setCell a u) b n f := by
  obtain ⟨D, h1, h2, h3⟩ := h
  exact ⟨D, h1.setCell ha u, h2, h3⟩
theorem MMap.drewN (h : MMap w b n f) (k : Nat) : MMap (w.drewN k) b n f := h.old ((Drawn.drewN w k).below _)
theorem MMap.mono {n' : Nat} (h : MMap w b n f) (hn : n ≤ n') : MMap w b n' f := by obtain ⟨D, h1, h2, h3⟩ := h; exact ⟨D, h1.mono hn, h2, h3⟩
theorem MMap.lt (h : MMap w b n f) : b < w.heap.size := by obtain ⟨D, h1, _⟩ := h; exact h1.lt
theorem MMap.ne_blk (h : MMap w b n f) {g : Nat} {t : TypeId} {cs : Array Value} (hg : Blk w g t cs) : b ≠ g := by
  rintro rfl
  obtain ⟨D, ⟨es, cl, hb, _⟩, _⟩ := h
  unfold Blk at hg
  rw [hb] at hg
  cases hg
theorem plainElem_int_inv {H : Type} {P : Program} {e : TypeId} (he : P.underlying e = some (.int .i64)) {v : Value} {z : DataW H × List MemPlace} (h : plainElem P e v = some z) : ∃ x, v = .int .i64 x ∧ z = (.lit (.int .i64 x), []) := by
  unfold plainElem at h
  rw [he] at h
  cases v <;> simp at h
  obtain ⟨⟨rfl, _⟩, h⟩ := h
  exact ⟨_, rfl, h.symm⟩
set_option maxRecDepth 100000 in
/-- 'i, ok := m[k]' -/
theorem MMap.look (h : MMap w b n f) {m : Mo} (hm : WfM m) : (Instr.lookup 93 (.map (some b)) (.agg (moV m)) true).run Tryz.prog w = .ok (.tuple #[.int .i64 (((f m).getD 0 : Nat) : Int), .bool (f m).isSome]) w := by
  obtain ⟨D, h1, h2, h3⟩ := h
  have hz : plainElem (H := Unit) Tryz.prog 3 (.int .i64 0) = some (.lit (.int .i64 0), []) := plainElem_int Tryz.underlying3 (wf_of ⟨by omega, by omega⟩)
  obtain ⟨v, ps, hrun, hv⟩ := h1.look_ok Tryz.lawMono Tryz.underlying93 (Tryz.zeroI w) hz (key_lit hm)
  obtain ⟨x, rfl, hx⟩ := plainElem_int_inv Tryz.underlying3 hv
  obtain ⟨e1, e2⟩ := h3 m hm
  rw [e2] at hx
  injection hx with hx _
  injection hx with hx
  injection hx with _ hx
  rw [hrun, e1, hx]
set_option maxRecDepth 100000 in
/-- 'm[k] = i' -/
theorem MMap.store (h : MMap w b n f) {m : Mo} (hm : WfM m) (hn : n < maxLen) (i : Nat) (hi : i < 1000000) : ∃ w', (Instr.mapUpdate 93 (.map (some b)) (.agg (moV m)) (.int .i64 (i : Int))).run Tryz.prog w = .ok () w' ∧ MMap w' b (n + 1) (fun x => if x = m then some i else f x) ∧ w.grownBy w' (some b) := by
  obtain ⟨D, h1, h2, h3⟩ := h
  have hz : plainElem (H := Unit) Tryz.prog 3 (.int .i64 (i : Int)) = some (.lit (.int .i64 (i : Int)), []) := plainElem_int Tryz.underlying3 (wf_of ⟨by omega, by omega⟩)
  obtain ⟨w', hrun, hown, ht⟩ := h1.store Tryz.lawMono Tryz.underlying93 hn (key_lit hm) hz
  refine ⟨w', hrun, ⟨_, hown, h2.put _ _, fun x hx => ?_⟩, ht.grown⟩
  by_cases e : x = m
  · subst e
    have hkl : WideAt.IsKeyLit (klit x) := Tryz.lawMono.key (key_lit hm)
    rw [has_put_same h2 hkl, atKey_put_same h2 hkl]
    simp
  · have hne : klit x ≠ klit m := fun k => e (klit_inj hx hm k)
    rw [has_put_other hne, atKey_put_other hne]
    simp only [if_neg e]
    exact h3 x hx
end
end Go.Proofs.YtpbapoanjkekmaaGreat

/- Words for polynomials in memory: placed terms; a slice of terms that is read; a gather. -/
namespace Go.Proofs.YtpbapoanjkekmaaGreat
open Go.RowKit

structure PT where
  ng : Bool
  ds : List Nat
  A : Option Addr
  c : Nat
  m : Mo
instance : Inhabited PT := ⟨⟨false, [], none, 0, (0, 0, 0, 0)⟩⟩
def PT.tm (p : PT) : Tm := (ival p.ng p.ds, p.m)
def PT.cells (p : PT) : List Value := [.bool p.ng, .slice p.A p.ds.length p.c, .int .i64 p.m.1, .int .i64 p.m.2.1, .int .i64 p.m.2.2.1, .int .i64 p.m.2.2.2]
/-- the canonical integer z at a place -/
def mkP (z : Int) (A : Option Addr) (c : Nat) (m : Mo) : PT := ⟨decide (z < 0), dig z.natAbs, A, c, m⟩
def Cn (p : PT) : Prop := ∃ z, p = mkP z p.A p.c p.m
theorem ival_dig (z : Int) : ival (decide (z < 0)) (dig z.natAbs) = z := by
  unfold ival
  rw [val_dig]
  by_cases h : z < 0 <;> simp [h] <;> omega
theorem mkP_tm (z : Int) (A : Option Addr) (c : Nat) (m : Mo) : (mkP z A c m).tm = (z, m) := by simp [mkP, PT.tm, ival_dig]
theorem Cn.eq {p : PT} (h : Cn p) : p = mkP p.tm.1 p.A p.c p.m := by
  obtain ⟨z, hz⟩ := h
  have : p.tm.1 = z := by rw [hz, mkP_tm]
  rw [this]
  exact hz
theorem Cn.ng {p : PT} (h : Cn p) : p.ng = decide (p.tm.1 < 0) := by
  have e := congrArg PT.ng h.eq
  exact e
theorem Cn.ds {p : PT} (h : Cn p) : p.ds = dig p.tm.1.natAbs := by
  have e := congrArg PT.ds h.eq
  exact e
theorem mkP_cn (z : Int) (A : Option Addr) (c : Nat) (m : Mo) : Cn (mkP z A c m) := ⟨z, rfl⟩

theorem flat_len (ps : List PT) : (ps.flatMap PT.cells).length = ps.length * 6 := by
  induction ps with
  | nil => rfl
  | cons p ps ih => rw [List.flatMap_cons, List.length_append, ih]; simp [PT.cells]; omega
theorem flat_at (ps : List PT) (i j : Nat) (p : PT) (hi : ps[i]? = some p) (hj : j < 6) : (ps.flatMap PT.cells)[i * 6 + j]? = p.cells[j]? := by
  induction ps generalizing i with
  | nil => simp at hi
  | cons q ps ih =>
    rw [List.flatMap_cons]
    match i, hi with
    | 0, hi =>
      simp at hi
      subst hi
      rw [List.getElem?_append_left (by simp [PT.cells]; omega)]
      simp
    | i + 1, hi =>
      rw [List.getElem?_append_right (by simp [PT.cells]; omega)]
      have := ih i (by simpa using hi)
      rw [← this]
      congr 1
      simp [PT.cells]
      omega
theorem cells_one (ps : List PT) : ∀ u ∈ ps.flatMap PT.cells, u.oneCell' = true := by
  intro u hu
  obtain ⟨p, _, hp⟩ := List.mem_flatMap.1 hu
  simp [PT.cells] at hp
  rcases hp with rfl | rfl | rfl | rfl | rfl | rfl <;> rfl

/-- a slice of terms that the call may read: all of it below the block B -/
structure PolyIn (w : World) (B : Nat) (A : Option Addr) (ps : List PT) : Prop where
  rd : Reads w B 6 A ps.length (ps.flatMap PT.cells)
  nt : ∀ p ∈ ps, NatIn w B p.A p.c p.ds
theorem PolyIn.below {w w' : World} {B : Nat} {A : Option Addr} {ps : List PT} (h : PolyIn w B A ps) (hb : Below B w w') : PolyIn w' B A ps := ⟨h.rd.below hb, fun p hp => (h.nt p hp).below hb⟩
theorem PolyIn.more {w : World} {B B' : Nat} {A : Option Addr} {ps : List PT} (h : PolyIn w B A ps) (hB : B ≤ B') : PolyIn w B' A ps := ⟨h.rd.more hB, fun p hp => (h.nt p hp).more hB⟩
theorem PolyIn.old {w w' : World} {A : Option Addr} {ps : List PT} (h : PolyIn w w.heap.size A ps) (hb : Below w.heap.size w w') : PolyIn w' w'.heap.size A ps := (h.below hb).more hb.size
/-- the cells of a term -/
theorem PolyIn.at_ {w : World} {B : Nat} {A : Option Addr} {ps : List PT} (h : PolyIn w B A ps) {k : Nat} {p : PT} (hk : ps[k]? = some p) :
    ∃ b o, A = some ⟨b, o, none⟩ ∧ b < B ∧ w.cell? ⟨b, o + k * 6, none⟩ = some (.bool p.ng) ∧ w.cell? ⟨b, o + k * 6 + 1, none⟩ = some (.slice p.A p.ds.length p.c) ∧
      w.cell? ⟨b, o + k * 6 + 2, none⟩ = some (.int .i64 p.m.1) ∧ w.cell? ⟨b, o + k * 6 + 3, none⟩ = some (.int .i64 p.m.2.1) ∧ w.cell? ⟨b, o + k * 6 + 4, none⟩ = some (.int .i64 p.m.2.2.1) ∧ w.cell? ⟨b, o + k * 6 + 5, none⟩ = some (.int .i64 p.m.2.2.2) := by
  have hl : k < ps.length := (List.getElem?_eq_some_iff.1 hk).1
  obtain ⟨b, o, e, hb, hc⟩ := h.rd.2 (by omega)
  have f := fun j hj u (hu : p.cells[j]? = some u) => hc (k * 6 + j) u ((flat_at ps k j p hk hj).trans hu)
  exact ⟨b, o, e, hb, f 0 (by omega) _ rfl, f 1 (by omega) _ rfl, f 2 (by omega) _ rfl, f 3 (by omega) _ rfl, f 4 (by omega) _ rfl, f 5 (by omega) _ rfl⟩

/-! ### sizes -/
def pw (k : Nat) : Nat := 4294967296 ^ k
def Big : Nat := pw 600
theorem dig_len_pw {v k : Nat} (h : v < pw k) : (dig v).length ≤ k := dig_len_lt (n := k) h
theorem dig_len_big {v : Nat} (h : v < Big) : (dig v).length ≤ 600 := dig_len_pw h

/-! ### a gather -/
def IdxOk (ps : List PT) (f : Mo → Option Nat) : Prop := (∀ m i, f m = some i → ∃ p, ps[i]? = some p ∧ p.m = m) ∧ ∀ m, f m = none → ∀ p ∈ ps, p.m ≠ m
structure GAt (w : World) (base g mb : Nat) (v : Value) (ps : List PT) : Prop where
  gb : Blk w g 95 #[.map (some mb), v]
  mp : ∃ f, MMap w mb ps.length f ∧ IdxOk ps f
  row : w.ownsRow base 56 6 v ps.length (ps.flatMap PT.cells)
  dg : ∀ p ∈ ps, NatB w p.A p.ds ∧ p.ds.length ≤ p.c
  cn : ∀ p ∈ ps, Cn p
  lg : base ≤ g
  lm : base ≤ mb
/-- what a gather's doing leaves alone: what lies below its blocks, and every block of another kind -/
structure GTurn (base : Nat) (w w' : World) : Prop where
  below : Below base w w'
  far : ∀ k t cs, Blk w k t cs → t ≠ 95 → t ≠ 56 → Blk w' k t cs
theorem GTurn.refl (base : Nat) (w : World) : GTurn base w w := ⟨Below.refl _ _, fun _ _ _ h _ _ => h⟩
theorem GTurn.trans {base : Nat} {a b c : World} (h : GTurn base a b) (k : GTurn base b c) : GTurn base a c := ⟨h.below.trans k.below, fun x t cs hx h1 h2 => k.far x t cs (h.far x t cs hx h1 h2) h1 h2⟩
theorem GTurn.of_below {base : Nat} {w w' : World} (hb : base ≤ w.heap.size) (h : Below w.heap.size w w') : GTurn base w w' := ⟨h.mono hb, fun _ _ _ k _ _ => k.old h⟩
theorem GTurn.natB {base : Nat} {w w' : World} (h : GTurn base w w') {A : Option Addr} {ds : List Nat} (k : NatB w A ds) : NatB w' A ds := k.keep fun g cs hb => h.far g _ cs hb (by decide) (by decide)
theorem GTurn.set_g {base : Nat} {w : World} {g o : Nat} {cs : Array Value} (hb : base ≤ g) (hg : Blk w g 95 cs) (u : Value) : GTurn base w (w.setCell ⟨g, o, none⟩ u) :=
  ⟨(Below.refl base w).setCell hb u, fun k t cs' h h1 _ => h.far (by
    rintro rfl
    unfold Blk at h hg
    rw [h] at hg
    injection hg with hg
    injection hg with _ e
    exact h1 e) u⟩
theorem GTurn.set_t {base : Nat} {w : World} {g o : Nat} {cs : Array Value} (hb : base ≤ g) (hg : Blk w g 56 cs) (u : Value) : GTurn base w (w.setCell ⟨g, o, none⟩ u) :=
  ⟨(Below.refl base w).setCell hb u, fun k t cs' h _ h2 => h.far (by
    rintro rfl
    unfold Blk at h hg
    rw [h] at hg
    injection hg with hg
    injection hg with _ e
    exact h2 e) u⟩
theorem own_row_far {w : World} {base n size : Nat} {e t : TypeId} {v : Value} {xs : List Value} (h : w.ownsRow base e size v n xs) {k : Nat} {cs : Array Value} (hk : Blk w k t cs) (hne : t ≠ e) : some k ≠ v.ownBlock := own_blk_ne h hk (Ne.symm hne)
theorem GTurn.grown {base : Nat} {w w' : World} {v : Value} {n : Nat} {xs : List Value} (hb : base ≤ w.heap.size) (hown : w.ownsRow base 56 6 v n xs) (hg : w.grownBy w' v.ownBlock) : GTurn base w w' := by
  refine ⟨(Below.refl base w).grown hg hb ?_, fun k t cs h _ h2 => h.grown hg (own_row_far hown h h2)⟩
  intro k hk
  rcases hown.2 with ⟨rfl, _⟩ | ⟨g', cap, cur, rfl, h1, _⟩
  · simp [Value.ownBlock] at hk
  · simp [Value.ownBlock] at hk; omega
theorem GTurn.map_ {base : Nat} {w w' : World} {b n : Nat} {f : Mo → Option Nat} (hb : base ≤ w.heap.size) (hm : MMap w b n f) (hlb : base ≤ b) (hg : w.grownBy w' (some b)) : GTurn base w w' := by
  refine ⟨(Below.refl base w).grown hg hb (fun k hk => by injection hk with hk; omega), fun k t cs h _ _ => h.grown hg (fun e => ?_)⟩
  injection e with e
  exact hm.ne_blk h e.symm
end Go.Proofs.YtpbapoanjkekmaaGreat

/- Contracts of sparse.newGather and gather.add. -/
namespace Go.Proofs.YtpbapoanjkekmaaGreat
open Go.RowKit
attribute [local go_sem ↓] Go.wp_at_zero Go.wp_at_succ

theorem GAt.new (w : World) : GAt ((w.alloc (.map #[] 0)).alloc (.cells #[.map (some w.heap.size), .slice none 0 0] 95)) w.heap.size (w.heap.size + 1) w.heap.size (.slice none 0 0) [] where
  gb := by have := Blk.new (w.alloc (.map #[] 0)) 95 #[.map (some w.heap.size), .slice none 0 0]; simpa using this
  mp := ⟨_, (MMap_made w).old ((Below.refl _ _).alloc (Nat.le_refl _) _), fun m i h => by simp at h, fun m _ p hp => by simp at hp⟩
  row := ⟨by simp, .inl ⟨rfl, rfl⟩⟩
  dg p hp := by simp at hp
  cn p hp := by simp at hp
  lg := by omega
  lm := Nat.le_refl _
def NewRes (w : World) (e : Ending) (w' : World) : Prop := ∃ g mb, e = .returned (.pointer (some ⟨g, 0, none⟩)) ∧ GAt w' w.heap.size g mb (.slice none 0 0) [] ∧ Below w.heap.size w w'
theorem newG_any (w : World) : Calls Tryz.prog 35 #[] w (NewRes w) := by
  have hmm := @run_makeMap Tryz.prog
  have hg := Lib.hid (GAt.new w)
  have hb := Lib.hid (((Below.refl w.heap.size w).alloc (Nat.le_refl _) (.map #[] 0)).alloc (by simp) (.cells #[.map (some w.heap.size), .slice none 0 0] 95))
  go_enter Tryz.func35, Tryz.ntmps35
  go_wp2
  go_ret
  exact ⟨_, _, rfl, hg.out, hb.out⟩

/-- every block of cells but the gather's own is left alone, and does not become its own -/
def FarT (g : Nat) (v v' : Value) (w w' : World) : Prop := ∀ k t cs, Blk w k t cs → k ≠ g → v.ownBlock ≠ some k → Blk w' k t cs ∧ v'.ownBlock ≠ some k
/-- every block that holds no cells, but the gather's map, is left alone -/
def OthT (mb : Nat) (w w' : World) : Prop := ∀ (k : Nat) (o : Obj), w.heap[k]? = some o → o.isCells = false → k ≠ mb → w'.heap[k]? = some o
section
variable {mb : Nat} {w V V' : World}
theorem OthT.of_below (h : Below w.heap.size w V) : OthT mb w V := fun k _ hk _ _ => (h.block k (Array.getElem?_eq_some_iff.1 hk).1).trans hk
theorem OthT.below (h : OthT mb w V) (hb : Below V.heap.size V V') : OthT mb w V' := fun k o hk ho hm => (hb.block k (Array.getElem?_eq_some_iff.1 (h k o hk ho hm)).1).trans (h k o hk ho hm)
theorem OthT.alloc (h : OthT mb w V) (o : Obj) : OthT mb w (V.alloc o) := h.below ((Below.refl _ _).alloc (Nat.le_refl _) _)
theorem OthT.set (h : OthT mb w V) {g : Nat} {t : TypeId} {cs : Array Value} (hb : Blk V g t cs) (i : Nat) (u : Value) : OthT mb w (V.setCell ⟨g, i, none⟩ u) := fun k o hk ho hm => by
  have h1 := h k o hk ho hm
  have hne : k ≠ g := by
    rintro rfl
    unfold Blk at hb
    rw [hb] at h1
    cases h1
    cases ho
  exact (Below.heap_setCell V ⟨g, i, none⟩ u k hne).trans h1
theorem OthT.map_ (h : OthT mb w V) (hg : V.grownBy V' (some mb)) : OthT mb w V' := fun k o hk ho hm =>
  (hg.block k (Array.getElem?_eq_some_iff.1 (h k o hk ho hm)).1 (fun e => hm (by injection e))).trans (h k o hk ho hm)
theorem OthT.own (h : OthT mb w V) {base n size : Nat} {e : TypeId} {v : Value} {xs : List Value} (hg : V.grownBy V' v.ownBlock) (hr : V.ownsRow base e size v n xs) : OthT mb w V' := fun k o hk ho hm => by
  have h1 := h k o hk ho hm
  refine (hg.block k (Array.getElem?_eq_some_iff.1 h1).1 (fun e' => ?_)).trans h1
  rcases hr.2 with ⟨rfl, _⟩ | ⟨g', cap, cur, rfl, _, hh, _⟩
  · simp [Value.ownBlock] at e'
  · have : k = g' := by simpa [Value.ownBlock] using e'
    subst this
    rw [hh] at h1
    cases h1
    cases ho
end
/-- what adding a term leaves -/
def AddRes (base g mb : Nat) (v0 : Value) (ts : List Tm) (w : World) (e : Ending) (w' : World) : Prop :=
  e = .returned (.tuple #[]) ∧ ∃ v ps, GAt w' base g mb v ps ∧ GInv ts (ps.map PT.tm) ∧ GTurn base w w' ∧ FarT g v0 v w w' ∧ OthT mb w w'

theorem GAt.old {w w' : World} {base g mb : Nat} {v : Value} {ps : List PT} (h : GAt w base g mb v ps) (hb : Below w.heap.size w w') : GAt w' base g mb v ps where
  gb := h.gb.old hb
  mp := by obtain ⟨f, h1, h2⟩ := h.mp; exact ⟨f, h1.old hb, h2⟩
  row := h.row.kept ⟨hb.os, hb.tape, hb.output, hb.size, fun k hk _ => hb.block k hk⟩ (row := none) (by cases v.ownBlock <;> simp)
  dg p hp := ⟨(h.dg p hp).1.old hb, (h.dg p hp).2⟩
  cn := h.cn
  lg := h.lg
  lm := h.lm

set_option maxHeartbeats 1000000 in
theorem gadd_neg (base g mb : Nat) (v : Value) (ts : List Tm) (ps : List PT) (m : Mo) (ng : Bool) (A : Option Addr) (c : Nat) (ds : List Nat) (w : World) (hG : GAt w base g mb v ps) (hI : GInv ts (ps.map PT.tm)) (hb : base ≤ w.heap.size) (hv : vld m = false) :
    Calls Tryz.prog 36 #[.pointer (some ⟨g, 0, none⟩), .agg (moV m), .agg #[.bool ng, .slice A ds.length c]] w (AddRes base g mb v (ts ++ [(ival ng ds, m)]) w) := by
  have HI := Lib.hid (hI.skip hv (ival ng ds))
  have hn := fun W => neg_any m W
  rw [hv] at hn
  generalize ts ++ [(ival ng ds, m)] = ts' at *
  have HN := Lib.hid hn
  clear hv hI
  have HX := Lib.hid (boxes2 w 44 31 (moV m) #[.bool ng, .slice A ds.length c])
  clear hn
  unfold moV at *
  generalize m.1 = m0 at *
  generalize m.2.1 = m1 at *
  generalize m.2.2.1 = m2 at *
  generalize m.2.2.2 = m3 at *
  go_enter Tryz.func36, Tryz.ntmps36
  go_wp2_with fail
  generalize (w.alloc (.cells #[.int .i64 m0, .int .i64 m1, .int .i64 m2, .int .i64 m3] 44)).alloc (.cells #[.bool ng, .slice A ds.length c] 31) = W at *
  obtain ⟨hb0, k0, k1, hs⟩ := HX.out
  clear hs HX
  refine (HN.out _).mono ?_
  rintro e W1 ⟨rfl, hl⟩
  have hlb := hb0.trans (hl.below.mono hb0.size)
  go_wp2_with fail
  go_end0
  exact ⟨rfl, v, ps, hG.old hlb, HI.out, .of_below hb hlb, fun k t cs h1 _ h3 => ⟨h1.old hlb, h3⟩, .of_below hlb⟩
end Go.Proofs.YtpbapoanjkekmaaGreat

/- Words for a gather: one coefficient turned. -/
namespace Go.Proofs.YtpbapoanjkekmaaGreat
open Go.RowKit

theorem flat_set (ps : List PT) (i : Nat) (p q : PT) (hi : ps[i]? = some p) (hm : q.m = p.m) : (ps.set i q).flatMap PT.cells = ((ps.flatMap PT.cells).set (i * 6) (.bool q.ng)).set (i * 6 + 1) (.slice q.A q.ds.length q.c) := by
  induction ps generalizing i with
  | nil => simp at hi
  | cons r ps ih =>
    match i, hi with
    | 0, hi =>
      simp at hi
      subst hi
      simp [PT.cells, hm]
    | i + 1, hi =>
      have h := ih i (by simpa using hi)
      have e1 : (i + 1) * 6 = i * 6 + 6 := by omega
      simp only [List.set_cons_succ, List.flatMap_cons, h, e1]
      have e2 : i * 6 + 6 + 1 = i * 6 + 1 + 6 := by omega
      rw [e2]
      simp [PT.cells]
theorem own_set {w : World} {base n size cap rb : Nat} {e : TypeId} {xs : List Value} (h : w.ownsRow base e size (.slice (some ⟨rb, 0, none⟩) n cap) n xs) (k : Nat) (u : Value) :
    (w.setCell ⟨rb, k, none⟩ u).ownsRow base e size (.slice (some ⟨rb, 0, none⟩) n cap) n (xs.set k u) := by
  obtain ⟨hl, h⟩ := h
  refine ⟨by simpa using hl, .inr ?_⟩
  rcases h with ⟨h, _⟩ | ⟨g, cap', cur, hv, hb, hh, h1, h2, h3, h4⟩
  · cases h
  · injection hv with hv _ hc
    injection hv with hv
    injection hv with hv
    subst hv; subst hc
    have hblk : Blk w rb e cur := hh
    refine ⟨rb, cap, cur.setIfInBounds k u, rfl, hb, hblk.set_ k u, h1, h2, by simpa using h3, ?_⟩
    rw [← h4]
    simp [List.take_set]
theorem own_blk {w : World} {base n size cap rb : Nat} {e : TypeId} {xs : List Value} (h : w.ownsRow base e size (.slice (some ⟨rb, 0, none⟩) n cap) n xs) : ∃ cur, Blk w rb e cur ∧ base ≤ rb ∧ n ≤ cap ∧ ∀ (j : Nat) (u : Value), xs[j]? = some u → cur[j]? = some u := by
  obtain ⟨hl, h⟩ := h
  rcases h with ⟨h, _⟩ | ⟨g, cap', cur, hv, hb, hh, h1, h2, h3, h4⟩
  · cases h
  · injection hv with hv _ hc
    injection hv with hv
    injection hv with hv
    subst hv; subst hc
    refine ⟨cur, hh, hb, h1, fun j u hu => ?_⟩
    rw [← h4, List.getElem?_take] at hu
    split at hu
    · simpa using hu
    · cases hu
theorem IdxOk.set {ps : List PT} {f : Mo → Option Nat} (h : IdxOk ps f) {i : Nat} {p q : PT} (hi : ps[i]? = some p) (hm : q.m = p.m) : IdxOk (ps.set i q) f := by
  refine ⟨fun m j hj => ?_, fun m hm' r hr => ?_⟩
  · obtain ⟨r, hr, e⟩ := h.1 m j hj
    by_cases hij : i = j
    · subst hij
      have hlt : i < ps.length := (List.getElem?_eq_some_iff.1 hi).1
      rw [hi] at hr
      injection hr with hr
      subst hr
      exact ⟨q, by simp [hlt], hm.trans e⟩
    · exact ⟨r, by simp [hij, hr], e⟩
  · rcases List.mem_or_eq_of_mem_set hr with k | k
    · exact h.2 m hm' r k
    · subst k
      rw [hm]
      exact h.2 m hm' p (List.mem_of_getElem? hi)
theorem GAt.upd_len {ps : List PT} {i : Nat} {p : PT} (hi : ps[i]? = some p) : i < ps.length := (List.getElem?_eq_some_iff.1 hi).1
theorem GAt.upd {w : World} {base g mb rb cap : Nat} {v : Value} {ps : List PT} (h : GAt w base g mb v ps) (hv : v = .slice (some ⟨rb, 0, none⟩) ps.length cap) {i : Nat} {p : PT} (hi : ps[i]? = some p) (z : Int) (A : Option Addr) (c : Nat) (hn : NatB w A (dig z.natAbs)) (hc : (dig z.natAbs).length ≤ c) :
    GAt ((w.setCell ⟨rb, i * 6, none⟩ (.bool (decide (z < 0)))).setCell ⟨rb, i * 6 + 1, none⟩ (.slice A (dig z.natAbs).length c)) base g mb v (ps.set i (mkP z A c p.m)) ∧
      GTurn base w ((w.setCell ⟨rb, i * 6, none⟩ (.bool (decide (z < 0)))).setCell ⟨rb, i * 6 + 1, none⟩ (.slice A (dig z.natAbs).length c)) := by
  subst hv
  obtain ⟨cur, hk, hbr, _, _⟩ := own_blk h.row
  have hk' := hk.set_ (i * 6) (.bool (decide (z < 0)))
  have ht : GTurn base w ((w.setCell ⟨rb, i * 6, none⟩ (.bool (decide (z < 0)))).setCell ⟨rb, i * 6 + 1, none⟩ (.slice A (dig z.natAbs).length c)) := (GTurn.set_t hbr hk _).trans (GTurn.set_t hbr hk' _)
  have hgr : g ≠ rb := by
    rintro rfl
    have := h.gb
    unfold Blk at this hk
    rw [hk] at this
    injection this with this
    injection this with _ e
    exact absurd e (by decide)
  refine ⟨⟨?_, ?_, ?_, ?_, ?_, h.lg, h.lm⟩, ht⟩
  · exact (h.gb.far hgr _).far hgr _
  · obtain ⟨f, h1, h2⟩ := h.mp
    have hne := h1.ne_blk hk
    exact ⟨f, by rw [List.length_set]; exact (h1.set_ hne _).set_ hne _, h2.set hi rfl⟩
  · rw [flat_set ps i p (mkP z A c p.m) hi rfl, List.length_set]
    exact own_set (own_set h.row _ _) _ _
  · intro q hq
    rcases List.mem_or_eq_of_mem_set hq with k | k
    · exact ⟨ht.natB (h.dg q k).1, (h.dg q k).2⟩
    · subst k
      exact ⟨ht.natB hn, hc⟩
  · intro q hq
    rcases List.mem_or_eq_of_mem_set hq with k | k
    · exact h.cn q k
    · subst k; exact mkP_cn _ _ _ _
theorem natB_nin {w : World} {A : Option Addr} {c : Nat} {v : Nat} (h : NatB w A (dig v)) (hc : (dig v).length ≤ c) : NatIn w w.heap.size A c (dig v) := ⟨h.reads, dig_dig v, hc⟩
theorem GAt.nin {w : World} {base g mb : Nat} {v : Value} {ps : List PT} (h : GAt w base g mb v ps) {p : PT} (hp : p ∈ ps) : NatIn w w.heap.size p.A p.c p.ds := by
  obtain ⟨h1, h2⟩ := h.dg p hp
  have e := (h.cn p hp).ds
  exact ⟨h1.reads, by rw [e]; exact dig_dig _, h2⟩
end Go.Proofs.YtpbapoanjkekmaaGreat
