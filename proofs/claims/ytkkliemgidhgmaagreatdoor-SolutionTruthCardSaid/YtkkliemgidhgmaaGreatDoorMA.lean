/- Matrices in memory. -/
import Derived.Test.YtkkliemgidhgmaaGreatDoorRM
import Derived.Test.YtkkliemgidhgmaaGreatDoorRP
namespace Go.Proofs.YtkkliemgidhgmaaGreatDoor
open Go.RowKit

/-- a matrix: the kind, the relation, the polynomial, the kids -/
inductive MX where
  | mk (kd rl : Int) (p : RP) (ks : List MX)
namespace MX
def kd : MX → Int | mk k _ _ _ => k
def rl : MX → Int | mk _ r _ _ => r
def p : MX → RP | mk _ _ p _ => p
def ks : MX → List MX | mk _ _ _ k => k
end MX
mutual
def depM : MX → Nat
  | .mk _ _ _ ks => depML ks + 1
def depML : List MX → Nat
  | [] => 0
  | t :: ts => max (depM t) (depML ts)
end
theorem depML_mem {ks : List MX} {t : MX} (h : t ∈ ks) : depM t ≤ depML ks := by
  induction ks with
  | nil => cases h
  | cons s ks ih =>
    simp only [depML]
    rcases List.mem_cons.1 h with rfl | h
    · omega
    · have := ih h; omega
theorem depM_kid {t u : MX} (h : u ∈ t.ks) : depM u < depM t := by
  cases t with
  | mk l g d ks =>
    have := depML_mem (show u ∈ ks from h)
    simp only [depM]
    omega
/-- the seven cells of a matrix -/
def mcell (m : MX) (A : Option Addr) (c : Nat) (K : Option Addr) (kc : Nat) (L : Option Addr) (lc : Nat) : List Value := [.int .i64 m.kd, .int .i64 m.rl, .int .i64 m.p.lv, .bool m.p.ng, .slice A m.p.ds.length c, .slice K m.p.ks.length kc, .slice L m.ks.length lc]
mutual
def MV (w : World) (S : Nat → Prop) : MX → List Value → Prop
  | .mk k r p ks, vs => ∃ A c K kc L lc, vs = mcell (.mk k r p ks) A c K kc L lc ∧ RV w S p (rcell p A c K kc) ∧ ks.length ≤ lc ∧ ∃ rows, ReadsS w S 7 L ks.length rows.flatten ∧ MVs w S ks rows
def MVs (w : World) (S : Nat → Prop) : List MX → List (List Value) → Prop
  | [], rows => rows = []
  | t :: ts, rows => ∃ r rs, rows = r :: rs ∧ MV w S t r ∧ MVs w S ts rs
end
section
variable {w w' : World} {S S' : Nat → Prop}
mutual
theorem MV.keep (hk : ∀ b, S b → ∀ o, w'.cell? ⟨b, o, none⟩ = w.cell? ⟨b, o, none⟩) : ∀ (t : MX) (vs : List Value), MV w S t vs → MV w' S t vs
  | .mk l g p ks, vs, h => by
    unfold MV at h ⊢
    obtain ⟨A, c, K, kc, L, lc, h1, h2, h3, rows, h6, h7⟩ := h
    exact ⟨A, c, K, kc, L, lc, h1, RV.keep hk p _ h2, h3, rows, h6.keep hk, MVs.keep hk ks rows h7⟩
theorem MVs.keep (hk : ∀ b, S b → ∀ o, w'.cell? ⟨b, o, none⟩ = w.cell? ⟨b, o, none⟩) : ∀ (ts : List MX) (rows : List (List Value)), MVs w S ts rows → MVs w' S ts rows
  | [], rows, h => by unfold MVs at h ⊢; exact h
  | t :: ts, rows, h => by
    unfold MVs at h ⊢
    obtain ⟨r, rs, h1, h2, h3⟩ := h
    exact ⟨r, rs, h1, MV.keep hk t r h2, MVs.keep hk ts rs h3⟩
end
mutual
theorem MV.mono (hS : ∀ b, S b → S' b) : ∀ (t : MX) (vs : List Value), MV w S t vs → MV w S' t vs
  | .mk l g p ks, vs, h => by
    unfold MV at h ⊢
    obtain ⟨A, c, K, kc, L, lc, h1, h2, h3, rows, h6, h7⟩ := h
    exact ⟨A, c, K, kc, L, lc, h1, RV.mono hS p _ h2, h3, rows, h6.mono hS, MVs.mono hS ks rows h7⟩
theorem MVs.mono (hS : ∀ b, S b → S' b) : ∀ (ts : List MX) (rows : List (List Value)), MVs w S ts rows → MVs w S' ts rows
  | [], rows, h => by unfold MVs at h ⊢; exact h
  | t :: ts, rows, h => by
    unfold MVs at h ⊢
    obtain ⟨r, rs, h1, h2, h3⟩ := h
    exact ⟨r, rs, h1, MV.mono hS t r h2, MVs.mono hS ts rs h3⟩
end
theorem MV.cells {t : MX} {vs : List Value} (h : MV w S t vs) : ∃ A c K kc L lc, vs = mcell t A c K kc L lc := by
  cases t with
  | mk l g p ks =>
    unfold MV at h
    obtain ⟨A, c, K, kc, L, lc, h1, _⟩ := h
    exact ⟨A, c, K, kc, L, lc, h1⟩
theorem MV.seven {t : MX} {vs : List Value} (h : MV w S t vs) : vs.length = 7 := by
  obtain ⟨A, c, K, kc, L, lc, rfl⟩ := h.cells
  rfl
theorem MV.one {t : MX} {vs : List Value} (h : MV w S t vs) : ∀ u ∈ vs, u.oneCell' = true := by
  obtain ⟨A, c, K, kc, L, lc, rfl⟩ := h.cells
  intro u hu
  simp [mcell] at hu
  rcases hu with rfl | rfl | rfl | rfl | rfl | rfl | rfl <;> rfl
theorem MVs.at_ : ∀ (ts : List MX) (rows : List (List Value)), MVs w S ts rows → (∀ r ∈ rows, r.length = 7) ∧ rows.length = ts.length ∧ ∀ (i : Nat) (t : MX), ts[i]? = some t → ∃ r, rows[i]? = some r ∧ MV w S t r
  | [], rows, h => by
    unfold MVs at h
    subst h
    simp
  | t :: ts, rows, h => by
    unfold MVs at h
    obtain ⟨r, rs, rfl, h2, h3⟩ := h
    obtain ⟨a1, a2, a3⟩ := MVs.at_ ts rs h3
    refine ⟨fun x hx => ?_, by simp [a2], fun i u hu => ?_⟩
    · rcases List.mem_cons.1 hx with rfl | hx
      · exact h2.seven
      · exact a1 x hx
    · cases i with
      | zero => simp at hu; subst hu; exact ⟨r, rfl, h2⟩
      | succ i => simp at hu; obtain ⟨x, hx, hv⟩ := a3 i u hu; exact ⟨x, by simpa using hx, hv⟩
theorem flat7 : ∀ (rows : List (List Value)) (_ : ∀ r ∈ rows, r.length = 7) (i : Nat) (r : List Value) (_ : rows[i]? = some r) (j : Nat) (_ : j < 7), rows.flatten[i * 7 + j]? = r[j]?
  | [], _, i, r, h, _, _ => by simp at h
  | x :: rows, h4, 0, r, h, j, hj => by
    simp at h
    subst h
    have := h4 x List.mem_cons_self
    rw [List.flatten_cons, Nat.zero_mul, Nat.zero_add, List.getElem?_append_left (by omega)]
  | x :: rows, h4, i + 1, r, h, j, hj => by
    have h1 := h4 x List.mem_cons_self
    rw [List.flatten_cons, List.getElem?_append_right (by omega), h1, show (i + 1) * 7 + j - 7 = i * 7 + j by omega]
    exact flat7 rows (fun y hy => h4 y (List.mem_cons_of_mem _ hy)) i r (by simpa using h) j hj
theorem MVs.snoc : ∀ {ts : List MX} {rows : List (List Value)} {t : MX} {r : List Value}, MVs w S ts rows → MV w S t r → MVs w S (ts ++ [t]) (rows ++ [r])
  | [], rows, t, r, h, hr => by
    unfold MVs at h
    subst h
    simp only [List.nil_append, MVs]
    exact ⟨r, [], rfl, hr, rfl⟩
  | s :: ts, rows, t, r, h, hr => by
    unfold MVs at h
    obtain ⟨x, xs, rfl, h2, h3⟩ := h
    simp only [List.cons_append, MVs]
    exact ⟨x, xs ++ [r], rfl, h2, MVs.snoc h3 hr⟩
/-- what a node tells -/
theorem MV.node {t : MX} {A : Option Addr} {c : Nat} {K : Option Addr} {kc : Nat} {L : Option Addr} {lc : Nat} (h : MV w S t (mcell t A c K kc L lc)) : RV w S t.p (rcell t.p A c K kc) ∧ t.ks.length ≤ lc := by
  cases t with
  | mk l g p ks =>
    unfold MV at h
    obtain ⟨A', c', K', kc', L', lc', h1, h2, h3, _⟩ := h
    unfold mcell at h1
    simp only [List.cons.injEq, Value.slice.injEq, and_true, true_and] at h1
    obtain ⟨⟨rfl, _, rfl⟩, ⟨rfl, _, rfl⟩, rfl, _, rfl⟩ := h1
    exact ⟨h2, h3⟩
theorem MV.kid {t : MX} {A : Option Addr} {c : Nat} {K : Option Addr} {kc : Nat} {L : Option Addr} {lc : Nat} (h : MV w S t (mcell t A c K kc L lc)) {i : Nat} {u : MX} (hi : t.ks[i]? = some u) :
    ∃ b o A' c' K' kc' L' lc', L = some ⟨b, o, none⟩ ∧ S b ∧ (∀ (j : Nat) (v : Value), (mcell u A' c' K' kc' L' lc')[j]? = some v → w.cell? ⟨b, o + (i * 7 + j), none⟩ = some v) ∧ MV w S u (mcell u A' c' K' kc' L' lc') := by
  cases t with
  | mk l g p ks =>
    unfold MV at h
    obtain ⟨A1, c1, K1, kc1, L1, lc1, h1, _, _, rows, h6, h7⟩ := h
    unfold mcell at h1
    simp only [List.cons.injEq, Value.slice.injEq, and_true, true_and] at h1
    obtain ⟨_, _, rfl, _, rfl⟩ := h1
    have hi' : ks[i]? = some u := hi
    have hl : i < ks.length := (List.getElem?_eq_some_iff.1 hi').1
    obtain ⟨a1, a2, a3⟩ := MVs.at_ ks rows h7
    obtain ⟨r, hr, hv⟩ := a3 i u hi'
    obtain ⟨A', c', K', kc', L', lc', rfl⟩ := hv.cells
    obtain ⟨b, o, hA, hb, hc⟩ := h6.2 (by show 0 < ks.length; omega)
    refine ⟨b, o, A', c', K', kc', L', lc', hA, hb, fun j v hj => hc (i * 7 + j) v ?_, hv⟩
    have hj7 : j < 7 := by
      have := (List.getElem?_eq_some_iff.1 hj).1
      simpa [mcell] using this
    exact (flat7 rows a1 i _ hr j hj7).trans hj
end
theorem MV.below {w w' : World} {B : Nat} {t : MX} {vs : List Value} (h : MV w (· < B) t vs) (hb : Below B w w') : MV w' (· < B) t vs := MV.keep (fun b hS o => hb.cell (p := ⟨b, o, none⟩) hS) t vs h
theorem MV.more {w : World} {B B' : Nat} {t : MX} {vs : List Value} (h : MV w (· < B) t vs) (hB : B ≤ B') : MV w (· < B') t vs := MV.mono (fun _ hS => Nat.lt_of_lt_of_le hS hB) t vs h
/-- a matrix without kids -/
theorem MV.leaf {w : World} {S : Nat → Prop} {k r : Int} {p : RP} {A : Option Addr} {c : Nat} {K : Option Addr} {kc : Nat} (h : RV w S p (rcell p A c K kc)) : MV w S (.mk k r p []) (mcell (.mk k r p []) A c K kc none 0) := by
  unfold MV
  exact ⟨A, c, K, kc, none, 0, rfl, h, Nat.zero_le _, [], ⟨rfl, fun hp => absurd hp (Nat.lt_irrefl 0)⟩, by unfold MVs; rfl⟩
/-- the zero matrix -/
abbrev zeroM : MX := .mk 0 0 zeroT []
theorem MV.zero {w : World} {S : Nat → Prop} : MV w S zeroM (mcell zeroM none 0 none 0 none 0) := MV.leaf RT.zero
theorem Tryz.sizeMat : (Tryz.prog.info? 35).map (·.size) = some 7 := by kernel_rfl
theorem Tryz.infoMat : (Tryz.prog.info? 35).map (fun i => (i.zero, i.size, i.bytes)) = some (some (.agg #[.int .i64 0, .int .i64 0, .int .i64 0, .bool false, .slice none 0 0, .slice none 0 0, .slice none 0 0]), 7, 104) := by kernel_rfl
end Go.Proofs.YtkkliemgidhgmaaGreatDoor
