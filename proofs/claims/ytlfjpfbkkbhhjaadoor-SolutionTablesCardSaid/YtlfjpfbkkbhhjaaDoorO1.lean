/- Rows in another order, some of them twice: the same error, and terms that cover the ones cover the others; rows appended one by one, in memory. -/
import Derived.Test.YtlfjpfbkkbhhjaaDoorL2
namespace Go.Proofs.YtlfjpfbkkbhhjaaDoor
open Go.RowKit

theorem row_mem {rows : List (List Int × Bool)} {k : Nat} (h : k < rows.length) : rows.getD k ([], false) ∈ rows := by
  rw [List.getD_eq_getElem?_getD, List.getElem?_eq_getElem h]; exact List.getElem_mem _
theorem row_of_mem {rows : List (List Int × Bool)} {r : List Int × Bool} (h : r ∈ rows) : ∃ k, k < rows.length ∧ sg rows k = r.1 ∧ tr rows k = r.2 := by
  obtain ⟨k, hk, e⟩ := List.getElem_of_mem h
  have e2 : rows.getD k ([], false) = r := by rw [List.getD_eq_getElem?_getD, List.getElem?_eq_getElem hk]; exact e
  exact ⟨k, hk, by unfold sg; rw [e2], by unfold tr; rw [e2]⟩
theorem sub_at {a b : List (List Int × Bool)} (h : ∀ r ∈ a, r ∈ b) {k : Nat} (hk : k < a.length) : ∃ j, j < b.length ∧ sg b j = sg a k ∧ tr b j = tr a k := row_of_mem (h _ (row_mem hk))
theorem validB_sub {x : Int} {a b : List (List Int × Bool)} (h : ∀ r ∈ a, r ∈ b) (hb : validB x b = true) : validB x a = true := by
  unfold validB at *
  rw [allTo_iff] at *
  intro k hk
  obtain ⟨j, hj, e, _⟩ := sub_at h hk
  rw [← e]
  exact hb j hj
theorem sepB_sub {a b : List (List Int × Bool)} (h : ∀ r ∈ a, r ∈ b) (hb : sepB b = true) : sepB a = true := by
  rw [sepB_iff] at *
  intro i j hi hj e
  obtain ⟨i', h1, e1, e2⟩ := sub_at h hi
  obtain ⟨j', h2, e3, e4⟩ := sub_at h hj
  rw [← e2, ← e4]
  exact hb i' j' h1 h2 (by rw [e1, e3, e])
theorem errOf_same {x : Int} {a b : List (List Int × Bool)} (h : ∀ r ∈ a, r ∈ b) (h' : ∀ r ∈ b, r ∈ a) : errOf x a = errOf x b := by
  have e1 : validB x a = validB x b := by rw [Bool.eq_iff_iff]; exact ⟨validB_sub h', validB_sub h⟩
  have e2 : sepB a = sepB b := by rw [Bool.eq_iff_iff]; exact ⟨sepB_sub h', sepB_sub h⟩
  unfold errOf
  rw [e1, e2]
theorem validP_sub {N : Nat} {a b : List (List Int × Bool)} (h : ∀ r ∈ a, r ∈ b) (hb : ValidP N b) : ValidP N a := fun k hk => by
  obtain ⟨j, hj, e, _⟩ := sub_at h hk
  have := hb j hj
  rw [e] at this
  exact this
theorem covers_sub {N : Nat} {a b : List (List Int × Bool)} {ts : List (List Int)} (h : ∀ r ∈ a, r ∈ b) (hv : ValidP N b) (hc : CoverOk N b ts) : covB ts a = true := by
  have hb := covers_of hv hc
  unfold covB at *
  rw [allTo_iff] at *
  intro k hk
  obtain ⟨j, hj, e1, e2⟩ := sub_at h hk
  have := hb j hj
  unfold covRow covAt at *
  rw [e1, e2] at this
  exact this

/-- cells of rows -/
def RowCells (w : World) (B : Nat) (xs : List Value) (rows : List (List Int × Bool)) : Prop :=
  xs.length = rows.length * 2 ∧ ∀ k, k < rows.length → ∃ Ak ck, xs[k * 2]? = some (.slice Ak (sg rows k).length ck) ∧ xs[k * 2 + 1]? = some (.bool (tr rows k)) ∧ Reads w B 1 Ak (sg rows k).length ((sg rows k).map (Value.int .i64))
theorem RowCells.keep {w w' : World} {B : Nat} {xs : List Value} {rows : List (List Int × Bool)} (h : RowCells w B xs rows) (hk : ∀ p : Addr, p.block < B → w'.cell? p = w.cell? p) : RowCells w' B xs rows :=
  ⟨h.1, fun k hkk => by obtain ⟨A, c, h1, h2, h3⟩ := h.2 k hkk; exact ⟨A, c, h1, h2, h3.keep hk⟩⟩
theorem RowCells.nil (w : World) (B : Nat) : RowCells w B [] [] := ⟨rfl, fun k hk => absurd hk (by simp)⟩
theorem RowCells.snoc {w : World} {B : Nat} {xs : List Value} {rows : List (List Int × Bool)} (h : RowCells w B xs rows) {A : Option Addr} {c : Nat} {l : List Int} {b : Bool} (hr : Reads w B 1 A l.length (l.map (Value.int .i64))) : RowCells w B (xs ++ [.slice A l.length c, .bool b]) (rows ++ [(l, b)]) := by
  have hx := h.1
  refine ⟨by simp [hx]; omega, fun k hk => ?_⟩
  by_cases hlt : k < rows.length
  · obtain ⟨A', c', h1, h2, h3⟩ := h.2 k hlt
    have e : (rows ++ [(l, b)]).getD k ([], false) = rows.getD k ([], false) := by simp [List.getElem?_append_left hlt]
    have e1 : sg (rows ++ [(l, b)]) k = sg rows k := by unfold sg; rw [e]
    have e2 : tr (rows ++ [(l, b)]) k = tr rows k := by unfold tr; rw [e]
    rw [e1, e2]
    exact ⟨A', c', by rw [List.getElem?_append_left (by omega)]; exact h1, by rw [List.getElem?_append_left (by omega)]; exact h2, h3⟩
  · have hke : k = rows.length := by simp at hk; omega
    subst hke
    have e : (rows ++ [(l, b)]).getD rows.length ([], false) = (l, b) := by simp
    have e1 : sg (rows ++ [(l, b)]) rows.length = l := by unfold sg; rw [e]
    have e2 : tr (rows ++ [(l, b)]) rows.length = b := by unfold tr; rw [e]
    rw [e1, e2]
    exact ⟨A, c, by rw [← hx]; simp, by rw [← hx]; simp, hr⟩
theorem RowsAt.of_own {w : World} {base B n c : Nat} {e : TypeId} {A : Option Addr} {xs : List Value} {rows : List (List Int × Bool)} (h : w.ownsRow base e 2 (.slice A n c) n xs) (hs : RowCells w B xs rows) (hB : B ≤ w.heap.size) : RowsAt w w.heap.size A rows := by
  intro hp
  have hr := Reads.of_own h
  have hx := hs.1
  have hn : xs.length = n * 2 := h.1
  obtain ⟨b, o, e, hb, hc⟩ := hr.2 (by omega)
  refine ⟨b, o, e, hb, fun k hk => ?_⟩
  obtain ⟨Ak, ck, h1, h2, h3⟩ := hs.2 k hk
  exact ⟨Ak, ck, hc _ _ h1, by have := hc _ _ h2; rwa [← Nat.add_assoc] at this, h3.more hB⟩
theorem Reads.two_new (w : World) (u v : Value) (t : TypeId) : Reads (w.alloc (.cells #[u, v] t)) (w.heap.size + 1) 2 (some ⟨w.heap.size, 0, none⟩) 1 [u, v] := by
  refine ⟨rfl, fun _ => ⟨_, _, rfl, by omega, fun j x hj => ?_⟩⟩
  match j, hj with
  | 0, hj => simp at hj; subst hj; unfold World.cell?; rw [heap_alloc_new]; simp
  | 1, hj => simp at hj; subst hj; unfold World.cell?; rw [heap_alloc_new]; simp
  | j + 2, hj => simp at hj
theorem own_slice2 {w : World} {base size n : Nat} {e : TypeId} {v : Value} {xs : List Value} (h : w.ownsRow base e size v n xs) : ∃ A cap, v = .slice A n cap := by
  rcases h.2 with ⟨rfl, rfl⟩ | ⟨g, cap, cur, rfl, _⟩
  · exact ⟨_, _, rfl⟩
  · exact ⟨_, _, rfl⟩
theorem Tryd.infoRow : (Tryd.prog.info? 36).map (fun i => (i.zero, i.size, i.bytes)) = some (some (.agg #[.slice none 0 0, .bool false]), 2, 32) := by kernel_rfl

/-- the rows from the turn-th on, round and round -/
def turnTo (rows : List (List Int × Bool)) (turn : Nat) : Nat → List (List Int × Bool)
  | 0 => []
  | k + 1 => turnTo rows turn k ++ [rows.getD ((k + turn) % rows.length) ([], false)]
theorem turnTo_len (rows : List (List Int × Bool)) (turn k : Nat) : (turnTo rows turn k).length = k := by
  induction k with
  | zero => rfl
  | succ k ih => simp [turnTo, ih]
theorem turnTo_sub {rows : List (List Int × Bool)} {turn k : Nat} {r : List Int × Bool} (h0 : 0 < rows.length) (h : r ∈ turnTo rows turn k) : r ∈ rows := by
  induction k with
  | zero => cases h
  | succ k ih =>
    unfold turnTo at h
    rcases List.mem_append.1 h with h | h
    · exact ih h
    · rw [List.mem_singleton] at h
      rw [h]
      exact row_mem (Nat.mod_lt _ h0)
theorem turnTo_at {rows : List (List Int × Bool)} {turn : Nat} {n i : Nat} (hi : i < n) : rows.getD ((i + turn) % rows.length) ([], false) ∈ turnTo rows turn n := by
  induction n with
  | zero => omega
  | succ n ih =>
    unfold turnTo
    by_cases h : i = n
    · subst h; simp
    · exact List.mem_append_left _ (ih (by omega))
theorem turnTo_all {rows : List (List Int × Bool)} {turn : Nat} {r : List Int × Bool} (h : r ∈ rows) : r ∈ turnTo rows turn rows.length := by
  obtain ⟨k, hk, e⟩ := List.getElem_of_mem h
  have e2 : rows.getD k ([], false) = r := by rw [List.getD_eq_getElem?_getD, List.getElem?_eq_getElem hk]; exact e
  have hn : 0 < rows.length := by omega
  have ht := Nat.mod_lt turn hn
  have h1 := turnTo_at (rows := rows) (turn := turn) (n := rows.length) (i := (k + (rows.length - turn % rows.length)) % rows.length) (Nat.mod_lt _ hn)
  have e3 : ((k + (rows.length - turn % rows.length)) % rows.length + turn) % rows.length = k := by
    rw [Nat.add_mod, Nat.mod_mod, ← Nat.add_mod, Nat.add_mod, ← Nat.mod_mod turn, ← Nat.add_mod]
    rw [Nat.mod_mod, show k + (rows.length - turn % rows.length) + turn % rows.length = k + rows.length by omega, Nat.add_mod_right, Nat.mod_eq_of_lt hk]
  rw [e3, e2] at h1
  exact h1
end Go.Proofs.YtlfjpfbkkbhhjaaDoor
