/- The arguments of SolutionMatrix opened: a slice of recursive polynomials that reads as data is a list of trees in memory; a slice of terms likewise. -/
import Derived.Test.YtkkliemgidhgmaaDoorF1
import Derived.Test.YtkkliemgidhgmaaDoorRF
import Derived.Test.YtkkliemgidhgmaaDoorMF
namespace Go.Proofs.YtkkliemgidhgmaaDoor
open Go.ChangeShapes Go.WideShapes Go.ChangeAt Go.RowKit Go.Deep

theorem wf_u32 {x : Int} (h : (Lit.int .u32 x).wf = true) : 0 ≤ x ∧ x < 4294967296 := by
  simp [Lit.wf, IntKind.min, IntKind.max, IntKind.signed, IntKind.bits] at h
  omega
theorem RVs.of_pairs {w : World} {S : Nat → Prop} : ∀ (l : List (RP × List Value)), (∀ x ∈ l, RV w S x.1 x.2) → RVs w S (l.map (·.1)) (l.map (·.2))
  | [], _ => by simp [RVs]
  | x :: l, h => by
    simp only [List.map_cons]
    unfold RVs
    exact ⟨_, _, rfl, h x (by simp), RVs.of_pairs l fun y hy => h y (by simp [hy])⟩
section
variable {H : Type} {enc : TypeId × Value → H} {W : World}
theorem open_nat {fuel : Nat} {v : Value} {y : DataW H × List MemPlace} (h : DataW.trod enc Tryd.prog W 0 (fun _ => true) true fuel 28 [v] = some y) :
    ∃ (ds : List Nat) (A : Option Addr) (c : Nat), v = .slice A ds.length c ∧ ReadsS W (· < W.heap.size) 1 A ds.length (u32s ds) ∧ Dig ds ∧ ds.length ≤ c := by
  rcases open_ints Tryd.underlying28 Tryd.underlying81 (by kernel_rfl) h with ⟨hcs, _⟩ | ⟨x, l, c, zs, hcs, _, hl, hm, hz, _, hcell, hwz⟩
  · simp at hcs
    subst hcs
    exact ⟨[], none, 0, rfl, ReadsS.of Reads.none_ (fun _ h => h), by simp [Dig], Nat.le_refl _⟩
  · simp at hcs
    subst hcs
    simp at hz
    have hnn : ∀ z ∈ zs, 0 ≤ z ∧ z < 4294967296 := fun z hzm => wf_u32 (hwz z hzm)
    have hlen : ((zs.take l).map Int.toNat).length = l := by rw [List.length_map, List.length_take, hz]; omega
    refine ⟨(zs.take l).map Int.toNat, some x, c, by rw [hlen], ?_, fun d hd => ?_, by rw [hlen]; exact hl⟩
    · rw [hlen]
      refine ⟨by rw [u32s, List.length_map, hlen, Nat.mul_one], fun hpos => ?_⟩
      obtain ⟨b, o, spot⟩ := x
      have hspot : spot = none := by simpa [Addr.add] using World.cell?_spot (hcell 0 (by omega))
      subst hspot
      have h0 := hcell 0 (by omega)
      refine ⟨b, o, rfl, World.block_lt_of_cell? W ⟨b, o, none⟩ h0, fun j u hu => ?_⟩
      have hj : j < l := by have := (List.getElem?_eq_some_iff.1 hu).1; simp [u32s] at this; omega
      have hjz : j < zs.length := by omega
      have := hcell j hjz
      rw [Addr.add_lit] at this
      rw [this, ← hu]
      have e1 : zs.getD j 0 = zs[j] := by simp [List.getElem?_eq_getElem hjz]
      have e2 : (zs[j].toNat : Int) = zs[j] := by have := hnn _ (List.getElem_mem hjz); omega
      simp [u32s, hj, List.getElem?_eq_getElem hjz, e2]
    · obtain ⟨z, hz1, rfl⟩ := List.mem_map.1 hd
      have := hnn z (List.mem_of_mem_take hz1)
      omega
theorem open_integer {fuel : Nat} {x0 x1 : Value} {y : DataW H × List MemPlace} (h : DataW.trod enc Tryd.prog W 0 (fun _ => true) true fuel 30 [x0, x1] = some y) :
    ∃ (ng : Bool) (ds : List Nat) (A : Option Addr) (c : Nat), x0 = .bool ng ∧ x1 = .slice A ds.length c ∧ ReadsS W (· < W.heap.size) 1 A ds.length (u32s ds) ∧ Dig ds ∧ ds.length ≤ c := by
  obtain ⟨xs, n, _, _, _, hxl, hf⟩ := DataW.trod_struct Tryd.underlying30 h
  have f0 : DataW.trod enc Tryd.prog W 0 (fun _ => true) true n 4 ((([x0, x1] : List Value).drop 0).take (Tryd.prog.cellsOf 4)) = xs[0]? := hf 0 _ rfl
  have f1 : DataW.trod enc Tryd.prog W 0 (fun _ => true) true n 28 ((([x0, x1] : List Value).drop 1).take (Tryd.prog.cellsOf 28)) = xs[1]? := hf 1 _ rfl
  rw [show Tryd.prog.cellsOf 4 = 1 by kernel_rfl] at f0
  rw [show Tryd.prog.cellsOf 28 = 1 by kernel_rfl] at f1
  change DataW.trod enc Tryd.prog W 0 (fun _ => true) true n 4 [x0] = xs[0]? at f0
  change DataW.trod enc Tryd.prog W 0 (fun _ => true) true n 28 [x1] = xs[1]? at f1
  have l0 : xs[0]? = some (xs[0]'(by simp at hxl; omega)) := List.getElem?_eq_getElem _
  have l1 : xs[1]? = some (xs[1]'(by simp at hxl; omega)) := List.getElem?_eq_getElem _
  rw [l0] at f0
  rw [l1] at f1
  obtain ⟨b, hb, _⟩ := DataW.trod_bool Tryd.underlying4 f0
  obtain ⟨ds, A, c, rfl, hn⟩ := open_nat f1
  simp at hb
  exact ⟨b, ds, A, c, hb, rfl, hn⟩
theorem open_recs_step {fuel : Nat} (IH : ∀ (n : Nat) (cs : List Value) (y : DataW H × List MemPlace), n < fuel → cs.length = 4 → DataW.trod enc Tryd.prog W 0 (fun _ => true) true n 32 cs = some y → ∃ t : RP, RV W (· < W.heap.size) t cs)
    {cs0 : List Value} {y : DataW H × List MemPlace} (h : DataW.trod enc Tryd.prog W 0 (fun _ => true) true fuel 22 cs0 = some y) :
    ∃ (ks : List RP) (K : Option Addr) (kc : Nat), cs0 = [.slice K ks.length kc] ∧ ks.length ≤ kc ∧ kc ≤ maxLen ∧ ∃ rows, ReadsS W (· < W.heap.size) 4 K ks.length rows.flatten ∧ RVs W (· < W.heap.size) ks rows := by
  rcases DataW.trod_slice Tryd.underlying22 h with ⟨hcs, _⟩ | ⟨a, len, cap, elems, rest, n, hn, hcs, _, _, hl, hm, hlen, hel, _, _⟩
  · subst hcs
    exact ⟨[], none, 0, rfl, Nat.le_refl _, by unfold maxLen; omega, [], ReadsS.of Reads.none_ (fun _ h => h), by simp [RVs]⟩
  · subst hcs
    have each : ∀ k, k < len → ∃ x : RP × List Value, (∀ j u, x.2[j]? = some u → W.cell? (a.add (k * 4 + j)) = some u) ∧ RV W (· < W.heap.size) x.1 x.2 := fun k hk => by
      have h1 := hel k hk
      rw [show Tryd.prog.cellsOf 32 = 4 by kernel_rfl, List.getElem?_eq_getElem (by omega)] at h1
      obtain ⟨cs', hc, ht⟩ := Option.bind_eq_some_iff.1 h1
      obtain ⟨_, hcl, hat⟩ := World.cells?_some hc
      obtain ⟨t, hrv⟩ := IH n cs' _ (by omega) hcl ht
      refine ⟨(t, cs'), fun j u hu => ?_, hrv⟩
      have hj : j < 4 := by have h9 : j < cs'.length := (List.getElem?_eq_some_iff.1 hu).1; omega
      rw [← Go.Deep.add_add, hat j hj]
      exact hu
    obtain ⟨l, hll, hp⟩ := exists_list ((.mk 0 false [] [], []) : RP × List Value) len each
    have hat : ∀ k x, l[k]? = some x → (∀ j u, x.2[j]? = some u → W.cell? (a.add (k * 4 + j)) = some u) ∧ RV W (· < W.heap.size) x.1 x.2 := fun k x hx => by
      have hk : k < l.length := (List.getElem?_eq_some_iff.1 hx).1
      have := hp k (by omega)
      rw [List.getD_eq_getElem?_getD, hx] at this
      exact this
    have hrvs := RVs.of_pairs (w := W) (S := (· < W.heap.size)) l fun x hx => by
      obtain ⟨k, hk⟩ := List.mem_iff_getElem?.1 hx
      exact (hat k x hk).2
    have h4 : ∀ r ∈ l.map (·.2), r.length = 4 := (RVs.at_ _ _ hrvs).1
    refine ⟨l.map (·.1), some a, cap, by rw [List.length_map, hll], by rw [List.length_map, hll]; exact hl, hm, l.map (·.2), ⟨by rw [flat4_len h4, List.length_map, List.length_map], fun h0 => ?_⟩, hrvs⟩
    rw [List.length_map] at h0
    obtain ⟨b, o, spot⟩ := a
    obtain ⟨x0, hx0⟩ : ∃ x, l[0]? = some x := ⟨_, List.getElem?_eq_getElem h0⟩
    have h04 : x0.2.length = 4 := (hat 0 x0 hx0).2.four
    have c0 := (hat 0 x0 hx0).1 0 _ (List.getElem?_eq_getElem (by omega))
    have hspot : spot = none := by simpa [Addr.add] using World.cell?_spot c0
    subst hspot
    refine ⟨b, o, rfl, World.block_lt_of_cell? W _ c0, fun j u hu => ?_⟩
    have hj : j < l.length * 4 := by have := (List.getElem?_eq_some_iff.1 hu).1; rwa [flat4_len h4, List.length_map] at this
    obtain ⟨x, hx⟩ : ∃ x, l[j / 4]? = some x := ⟨_, List.getElem?_eq_getElem (by omega)⟩
    have e := flat4 _ h4 (j / 4) x.2 (by rw [List.getElem?_map, hx]; rfl) (j % 4) (by omega)
    have ej : j / 4 * 4 + j % 4 = j := by omega
    rw [ej] at e
    rw [e] at hu
    have := (hat _ _ hx).1 _ u hu
    rw [ej, Addr.add_lit] at this
    exact this
theorem open_rec : ∀ (fuel : Nat) (cs : List Value) (y : DataW H × List MemPlace), cs.length = 4 → DataW.trod enc Tryd.prog W 0 (fun _ => true) true fuel 32 cs = some y → ∃ t : RP, RV W (· < W.heap.size) t cs := by
  intro fuel
  induction fuel using Nat.strongRecOn with
  | ind fuel IH =>
  intro cs y hl h
  match cs, hl, h with
  | [x0, x1, x2, x3], _, h =>
    obtain ⟨xs, n, hn, _, _, hxl, hf⟩ := DataW.trod_struct Tryd.underlying32 h
    have f0 : DataW.trod enc Tryd.prog W 0 (fun _ => true) true n 3 ((([x0, x1, x2, x3] : List Value).drop 0).take (Tryd.prog.cellsOf 3)) = xs[0]? := hf 0 _ rfl
    have f1 : DataW.trod enc Tryd.prog W 0 (fun _ => true) true n 30 ((([x0, x1, x2, x3] : List Value).drop 1).take (Tryd.prog.cellsOf 30)) = xs[1]? := hf 1 _ rfl
    have f2 : DataW.trod enc Tryd.prog W 0 (fun _ => true) true n 22 ((([x0, x1, x2, x3] : List Value).drop 3).take (Tryd.prog.cellsOf 22)) = xs[2]? := hf 2 _ rfl
    rw [show Tryd.prog.cellsOf 3 = 1 by kernel_rfl] at f0
    rw [show Tryd.prog.cellsOf 30 = 2 by kernel_rfl] at f1
    rw [show Tryd.prog.cellsOf 22 = 1 by kernel_rfl] at f2
    change DataW.trod enc Tryd.prog W 0 (fun _ => true) true n 3 [x0] = xs[0]? at f0
    change DataW.trod enc Tryd.prog W 0 (fun _ => true) true n 30 [x1, x2] = xs[1]? at f1
    change DataW.trod enc Tryd.prog W 0 (fun _ => true) true n 22 [x3] = xs[2]? at f2
    have l0 : xs[0]? = some (xs[0]'(by simp at hxl; omega)) := List.getElem?_eq_getElem _
    have l1 : xs[1]? = some (xs[1]'(by simp at hxl; omega)) := List.getElem?_eq_getElem _
    have l2 : xs[2]? = some (xs[2]'(by simp at hxl; omega)) := List.getElem?_eq_getElem _
    rw [l0] at f0
    rw [l1] at f1
    rw [l2] at f2
    obtain ⟨z, hz, _, _⟩ := DataW.trod_int Tryd.underlying3 f0
    simp at hz
    subst hz
    obtain ⟨ng, ds, A, c, rfl, rfl, hr, hd, hc⟩ := open_integer f1
    obtain ⟨ks, K, kc, hcs, hkc, _, rows, hrr, hrv⟩ := open_recs_step (fuel := n) (fun m cs y hm hl h => IH m (by omega) cs y hl h) f2
    simp at hcs
    subst hcs
    refine ⟨.mk z ng ds ks, ?_⟩
    unfold RV
    exact ⟨A, c, K, kc, rfl, hr, hd, hc, hkc, rows, hrr, hrv⟩
/-- the polynomials -/
theorem open_polys {a0 : Option Addr} {len cap : Nat} {d : DataW H} {p : List MemPlace} (h : DataW.Trod enc Tryd.prog W 0 (fun _ => true) true 22 (.slice a0 len cap) d p) :
    ∃ ps : List RP, ps.length = len ∧ RV W (· < W.heap.size) (.mk 0 false [] ps) (rcell (.mk 0 false [] ps) none 0 a0 cap) := by
  obtain ⟨fuel, hf⟩ := h
  obtain ⟨ks, K, kc, hcs, hkc, _, rows, hrr, hrv⟩ := open_recs_step (fun n cs y _ hl h => open_rec n cs y hl h) hf
  simp [Value.cells] at hcs
  obtain ⟨rfl, rfl, rfl⟩ := hcs
  refine ⟨ks, rfl, ?_⟩
  unfold RV
  exact ⟨none, 0, _, _, rfl, ReadsS.of Reads.none_ (fun _ h => h), by simp [Dig], Nat.le_refl _, hkc, rows, hrr, hrv⟩
/-- the terms -/
theorem open_term {fuel : Nat} {v : Value} {y : DataW H × List MemPlace} (h : DataW.trod enc Tryd.prog W 0 (fun _ => true) true fuel 47 [v] = some y) :
    ∃ (l : List Int) (A : Option Addr) (c : Nat), v = .slice A l.length c ∧ Reads W W.heap.size 1 A l.length (l.map (Value.int .i64)) := by
  rcases open_ints Tryd.underlying47 Tryd.underlying3 (by kernel_rfl) h with ⟨hcs, _⟩ | ⟨x, l, c, zs, hcs, _, hl, hm, hz, _, hcell, hwz⟩
  · simp at hcs
    subst hcs
    exact ⟨[], none, 0, rfl, Reads.none_⟩
  · simp at hcs
    subst hcs
    simp at hz
    have hlen : (zs.take l).length = l := by rw [List.length_take, hz]; omega
    refine ⟨zs.take l, some x, c, by rw [hlen], ?_⟩
    rw [hlen]
    refine ⟨by rw [List.length_map, hlen, Nat.mul_one], fun hpos => ?_⟩
    obtain ⟨b, o, spot⟩ := x
    have hspot : spot = none := by simpa [Addr.add] using World.cell?_spot (hcell 0 (by omega))
    subst hspot
    have h0 := hcell 0 (by omega)
    refine ⟨b, o, rfl, World.block_lt_of_cell? W ⟨b, o, none⟩ h0, fun j u hu => ?_⟩
    have hj : j < l := by have := (List.getElem?_eq_some_iff.1 hu).1; simp at this; omega
    have := hcell j (by omega)
    rw [Addr.add_lit] at this
    rw [this, ← hu, List.getElem?_map, List.getElem?_take, if_pos hj, List.getElem?_eq_getElem (by omega)]
    simp [List.getElem?_eq_getElem (show j < zs.length by omega)]
theorem open_terms {a0 : Option Addr} {len cap : Nat} {d : DataW H} {p : List MemPlace} (h : DataW.Trod enc Tryd.prog W 0 (fun _ => true) true 23 (.slice a0 len cap) d p) :
    ∃ ts : List (List Int), ts.length = len ∧ ListsAt W W.heap.size a0 ts := by
  obtain ⟨fuel, hf⟩ := h
  rcases open_slice1 Tryd.underlying23 (by kernel_rfl) hf with ⟨hcs, _⟩ | ⟨a, len', cap', m, n, V, D, Pl, hcs, _, hl, hm, hmm, _, hi⟩
  · simp [Value.cells] at hcs
    obtain ⟨rfl, rfl, rfl⟩ := hcs
    exact ⟨[], rfl, fun h0 => absurd h0 (by simp)⟩
  · simp [Value.cells] at hcs
    obtain ⟨rfl, rfl, rfl⟩ := hcs
    simp only [if_true] at hmm
    subst hmm
    have each : ∀ k, k < len → ∃ r : List Int, ∃ Ak ck, W.cell? (a.add k) = some (.slice Ak r.length ck) ∧ Reads W W.heap.size 1 Ak r.length (r.map (Value.int .i64)) := fun k hk => by
      obtain ⟨h1, h2⟩ := hi k (by omega)
      obtain ⟨l, Ak, ck, hv, hrd⟩ := open_term h2
      rw [hv] at h1
      exact ⟨l, Ak, ck, h1, hrd⟩
    obtain ⟨ts, hlen, hp⟩ := exists_list ([] : List Int) len each
    refine ⟨ts, hlen, fun h0 => ?_⟩
    obtain ⟨b, o, spot⟩ := a
    obtain ⟨_, _, c0, _⟩ := hp 0 (by omega)
    have hspot : spot = none := by simpa [Addr.add] using World.cell?_spot c0
    subst hspot
    refine ⟨b, o, rfl, World.block_lt_of_cell? W _ c0, fun k hk => ?_⟩
    obtain ⟨Ak, ck, h1, h2⟩ := hp k (by omega)
    rw [Addr.add_lit] at h1
    exact ⟨Ak, ck, h1, h2⟩
end
end Go.Proofs.YtkkliemgidhgmaaDoor
