/- The arguments opened: a slice of terms that reads as data is a list of terms in memory; an integer likewise. -/
import Derived.Test.YtpbapoanjkekmaaGreatRows
import Derived.WalkKit
import Derived.ProofKit
import Derived.OpenShut
import Derived.ChangeOld
import Derived.Deep.Slices
import Derived.Deep.Fields
import Derived.ChangeSame
import Derived.Deep.DeepHandedRow
import Derived.Stop.LaidErr
import Derived.Test.YtpbapoanjkekmaaGreatZR
namespace Go.Proofs.YtpbapoanjkekmaaGreat
open Go.ChangeShapes Go.WideShapes Go.ChangeAt Go.RowKit Go.Deep

theorem wf_inv {x : Int} (h : (Lit.int .i64 x).wf = true) : WfI x := by
  simp [Lit.wf, IntKind.min, IntKind.max, IntKind.signed, IntKind.bits] at h
  exact ⟨by omega, by omega⟩
theorem wf_u32 {x : Int} (h : (Lit.int .u32 x).wf = true) : 0 ≤ x ∧ x < 4294967296 := by
  simp [Lit.wf, IntKind.min, IntKind.max, IntKind.signed, IntKind.bits] at h
  omega
theorem Tryz.cellsInt : Tryz.prog.cellsOf 31 = 2 := by kernel_rfl
theorem Tryz.cellsNat : Tryz.prog.cellsOf 29 = 1 := by kernel_rfl
theorem Tryz.cellsBool : Tryz.prog.cellsOf 4 = 1 := by kernel_rfl
theorem Tryz.cellsU32 : Tryz.prog.cellsOf 82 = 1 := by kernel_rfl
theorem Tryz.cellsTerm : Tryz.prog.cellsOf 56 = 6 := by kernel_rfl

section
variable {H : Type} {enc : TypeId × Value → H} {W : World}
theorem open_nat {fuel : Nat} {v : Value} {y : DataW H × List MemPlace} (h : DataW.trod enc Tryz.prog W 0 (fun _ => true) true fuel 29 [v] = some y) :
    ∃ (ds : List Nat) (A : Option Addr) (c : Nat), v = .slice A ds.length c ∧ NatIn W W.heap.size A c ds := by
  rcases open_ints Tryz.underlying29 Tryz.underlying82 Tryz.cellsU32 h with ⟨hcs, _⟩ | ⟨x, l, c, zs, hcs, _, hl, hm, hz, _, hcell, hwz⟩
  · simp at hcs
    subst hcs
    exact ⟨[], none, 0, rfl, Reads.none_, by simp [Dig], Nat.le_refl _⟩
  · simp at hcs
    subst hcs
    simp at hz
    have hnn : ∀ z ∈ zs, 0 ≤ z ∧ z < 4294967296 := fun z hzm => wf_u32 (hwz z hzm)
    have hlen : ((zs.take l).map Int.toNat).length = l := by rw [List.length_map, List.length_take, hz]; omega
    refine ⟨(zs.take l).map Int.toNat, some x, c, by rw [hlen], ⟨?_, fun d hd => ?_, by rw [hlen]; exact hl⟩⟩
    · rw [hlen]
      refine ⟨by rw [u32s, List.length_map, hlen, Nat.mul_one], fun hpos => ?_⟩
      obtain ⟨b, o, spot⟩ := x
      have hspot : spot = none := by simpa [Addr.add] using World.cell?_spot (hcell 0 (by omega))
      subst hspot
      have h0 := hcell 0 (by omega)
      refine ⟨b, o, rfl, World.block_lt_of_cell? W ⟨b, o, none⟩ h0, fun j u hu => ?_⟩
      have hj : j < l := by have := (List.getElem?_eq_some_iff.1 hu).1; simp [u32s] at this; omega
      have hjz : j < zs.length := by omega
      have := hcell j hjz
      rw [Addr.add_lit] at this
      rw [this, ← hu]
      have e1 : zs.getD j 0 = zs[j] := by simp [List.getElem?_eq_getElem hjz]
      have e2 : (zs[j].toNat : Int) = zs[j] := by have := hnn _ (List.getElem_mem hjz); omega
      simp [u32s, hj, List.getElem?_eq_getElem hjz, e2]
    · obtain ⟨z, hz1, rfl⟩ := List.mem_map.1 hd
      have := hnn z (List.mem_of_mem_take hz1)
      omega
theorem open_int2 {fuel : Nat} {x0 x1 : Value} {y : DataW H × List MemPlace} (h : DataW.trod enc Tryz.prog W 0 (fun _ => true) true fuel 31 [x0, x1] = some y) :
    ∃ (ng : Bool) (ds : List Nat) (A : Option Addr) (c : Nat), x0 = .bool ng ∧ x1 = .slice A ds.length c ∧ NatIn W W.heap.size A c ds := by
  obtain ⟨xs, n, _, _, _, hxl, hf⟩ := DataW.trod_struct Tryz.underlying31 h
  have f0 : DataW.trod enc Tryz.prog W 0 (fun _ => true) true n 4 ((([x0, x1] : List Value).drop 0).take (Tryz.prog.cellsOf 4)) = xs[0]? := hf 0 _ rfl
  have f1 : DataW.trod enc Tryz.prog W 0 (fun _ => true) true n 29 ((([x0, x1] : List Value).drop 1).take (Tryz.prog.cellsOf 29)) = xs[1]? := hf 1 _ rfl
  rw [Tryz.cellsBool] at f0
  rw [Tryz.cellsNat] at f1
  change DataW.trod enc Tryz.prog W 0 (fun _ => true) true n 4 [x0] = xs[0]? at f0
  change DataW.trod enc Tryz.prog W 0 (fun _ => true) true n 29 [x1] = xs[1]? at f1
  have l0 : xs[0]? = some (xs[0]'(by simp at hxl; omega)) := List.getElem?_eq_getElem _
  have l1 : xs[1]? = some (xs[1]'(by simp at hxl; omega)) := List.getElem?_eq_getElem _
  rw [l0] at f0
  rw [l1] at f1
  obtain ⟨b, hb, _⟩ := DataW.trod_bool Tryz.underlying4 f0
  obtain ⟨ds, A, c, rfl, hn⟩ := open_nat f1
  simp at hb
  exact ⟨b, ds, A, c, hb, rfl, hn⟩
theorem open_mono {fuel : Nat} {x0 x1 x2 x3 : Value} {y : DataW H × List MemPlace} (h : DataW.trod enc Tryz.prog W 0 (fun _ => true) true fuel 44 [x0, x1, x2, x3] = some y) :
    ∃ m : Mo, WfM m ∧ x0 = .int .i64 m.1 ∧ x1 = .int .i64 m.2.1 ∧ x2 = .int .i64 m.2.2.1 ∧ x3 = .int .i64 m.2.2.2 := by
  obtain ⟨xs, n, _, _, _, hxl, hf⟩ := DataW.trod_array Tryz.underlying44 h
  have each : ∀ (i : Nat) (hi : i < 4) (x : Value), (([x0, x1, x2, x3] : List Value).drop (i * Tryz.prog.cellsOf 3)).take (Tryz.prog.cellsOf 3) = [x] → ∃ z, x = .int .i64 z ∧ WfI z := fun i hi x hx => by
    have f := hf i hi
    rw [hx, List.getElem?_eq_getElem (by omega)] at f
    obtain ⟨z, hz, _, hw⟩ := DataW.trod_int Tryz.underlying3 f
    simp at hz
    exact ⟨z, hz, wf_inv hw⟩
  obtain ⟨z0, rfl, w0⟩ := each 0 (by omega) x0 (by rw [Tryz.cellsI]; rfl)
  obtain ⟨z1, rfl, w1⟩ := each 1 (by omega) x1 (by rw [Tryz.cellsI]; rfl)
  obtain ⟨z2, rfl, w2⟩ := each 2 (by omega) x2 (by rw [Tryz.cellsI]; rfl)
  obtain ⟨z3, rfl, w3⟩ := each 3 (by omega) x3 (by rw [Tryz.cellsI]; rfl)
  exact ⟨(z0, z1, z2, z3), ⟨w0, w1, w2, w3⟩, rfl, rfl, rfl, rfl⟩
theorem open_term {fuel : Nat} {cs : List Value} {y : DataW H × List MemPlace} (hl : cs.length = 6) (h : DataW.trod enc Tryz.prog W 0 (fun _ => true) true fuel 56 cs = some y) :
    ∃ p : PT, cs = p.cells ∧ NatIn W W.heap.size p.A p.c p.ds ∧ WfM p.m := by
  match cs, hl, h with
  | [x0, x1, x2, x3, x4, x5], _, h =>
    obtain ⟨xs, n, _, _, _, hxl, hf⟩ := DataW.trod_struct Tryz.underlying56 h
    have f0 : DataW.trod enc Tryz.prog W 0 (fun _ => true) true n 31 ((([x0, x1, x2, x3, x4, x5] : List Value).drop 0).take (Tryz.prog.cellsOf 31)) = xs[0]? := hf 0 _ rfl
    have f1 : DataW.trod enc Tryz.prog W 0 (fun _ => true) true n 44 ((([x0, x1, x2, x3, x4, x5] : List Value).drop 2).take (Tryz.prog.cellsOf 44)) = xs[1]? := hf 1 _ rfl
    rw [Tryz.cellsInt] at f0
    rw [Tryz.cellsMono] at f1
    change DataW.trod enc Tryz.prog W 0 (fun _ => true) true n 31 [x0, x1] = xs[0]? at f0
    change DataW.trod enc Tryz.prog W 0 (fun _ => true) true n 44 [x2, x3, x4, x5] = xs[1]? at f1
    have l0 : xs[0]? = some (xs[0]'(by simp at hxl; omega)) := List.getElem?_eq_getElem _
    have l1 : xs[1]? = some (xs[1]'(by simp at hxl; omega)) := List.getElem?_eq_getElem _
    rw [l0] at f0
    rw [l1] at f1
    obtain ⟨ng, ds, A, c, rfl, rfl, hn⟩ := open_int2 f0
    obtain ⟨m, hm, rfl, rfl, rfl, rfl⟩ := open_mono f1
    exact ⟨⟨ng, ds, A, c, m⟩, rfl, hn, hm⟩
theorem exists_list {α : Type} {p : Nat → α → Prop} (n : Nat) (h : ∀ k, k < n → ∃ a, p k a) : ∃ l : List α, l.length = n ∧ ∀ k a, l[k]? = some a → p k a := by
  induction n with
  | zero => exact ⟨[], rfl, fun k a hk => by simp at hk⟩
  | succ n ih =>
    obtain ⟨l, hl, hp⟩ := ih fun k hk => h k (by omega)
    obtain ⟨a, ha⟩ := h n (by omega)
    refine ⟨l ++ [a], by simp [hl], fun k b hk => ?_⟩
    by_cases hkn : k < l.length
    · rw [List.getElem?_append_left hkn] at hk
      exact hp k b hk
    · rw [List.getElem?_append_right (by omega)] at hk
      have : k - l.length = 0 := by have := (List.getElem?_eq_some_iff.1 hk).1; simp at this; omega
      rw [this] at hk
      simp at hk
      subst hk
      rw [show k = n by omega]
      exact ha
/-- a polynomial among the arguments -/
theorem open_poly {a0 : Option Addr} {len cap : Nat} {d : DataW H} {p : List MemPlace} (h : DataW.Trod enc Tryz.prog W 0 (fun _ => true) true 23 (.slice a0 len cap) d p) :
    ∃ ps : List PT, ps.length = len ∧ PolyIn W W.heap.size a0 ps ∧ ∀ q ∈ ps, WfM q.m := by
  obtain ⟨fuel, hf⟩ := h
  rcases open_slice Tryz.underlying23 hf with ⟨hcs, _⟩ | ⟨a, len', cap', m, n, D, Pl, hcs, _, hl, hm, hmm, _, hi⟩
  · simp [Value.cells] at hcs
    obtain ⟨rfl, rfl, rfl⟩ := hcs
    exact ⟨[], rfl, ⟨Reads.none_, by simp⟩, by simp⟩
  · simp [Value.cells] at hcs
    obtain ⟨rfl, rfl, rfl⟩ := hcs
    simp only [if_true] at hmm
    subst hmm
    have each : ∀ k, k < len → ∃ q : PT, (∀ j u, q.cells[j]? = some u → W.cell? (a.add (k * 6 + j)) = some u) ∧ NatIn W W.heap.size q.A q.c q.ds ∧ WfM q.m := fun k hk => by
      obtain ⟨cs', hc, ht⟩ := hi k (by omega)
      rw [Tryz.cellsTerm] at hc
      obtain ⟨_, hcl, hat⟩ := World.cells?_some hc
      obtain ⟨q, rfl, hn, hw⟩ := open_term hcl ht
      refine ⟨q, fun j u hu => ?_, hn, hw⟩
      have hj : j < 6 := (List.getElem?_eq_some_iff.1 hu).1
      rw [← Go.Deep.add_add, hat j hj]
      exact hu
    obtain ⟨ps, hlen, hp⟩ := exists_list len each
    refine ⟨ps, hlen, ⟨⟨flat_len ps, fun h0 => ?_⟩, fun q hq => ?_⟩, fun q hq => ?_⟩
    · obtain ⟨b, o, spot⟩ := a
      obtain ⟨q0, hq0⟩ : ∃ q, ps[0]? = some q := ⟨_, List.getElem?_eq_getElem h0⟩
      have c0 := (hp 0 q0 hq0).1 0 _ rfl
      have hspot : spot = none := by simpa [Addr.add] using World.cell?_spot c0
      subst hspot
      have c0' : W.cell? ⟨b, o, none⟩ = some _ := c0
      refine ⟨b, o, rfl, World.block_lt_of_cell? W ⟨b, o, none⟩ c0', fun j u hu => ?_⟩
      have hj : j < ps.length * 6 := by have := (List.getElem?_eq_some_iff.1 hu).1; rwa [flat_len] at this
      have hq : ps[j / 6]? = some ps[j / 6] := List.getElem?_eq_getElem (by omega)
      have e := flat_at ps (j / 6) (j % 6) _ hq (by omega)
      have ej : j / 6 * 6 + j % 6 = j := by omega
      rw [ej] at e
      rw [e] at hu
      have := (hp _ _ hq).1 _ u hu
      rw [ej, Addr.add_lit] at this
      exact this
    · obtain ⟨k, hk⟩ := List.mem_iff_getElem?.1 hq
      exact (hp k q hk).2.1
    · obtain ⟨k, hk⟩ := List.mem_iff_getElem?.1 hq
      exact (hp k q hk).2.2
end
theorem own : ownKnob Tryz.prog.godebug = none := by kernel_rfl
theorem laidOut : laidOutB Tryz.prog = true := by kernel_rfl
end Go.Proofs.YtpbapoanjkekmaaGreat
