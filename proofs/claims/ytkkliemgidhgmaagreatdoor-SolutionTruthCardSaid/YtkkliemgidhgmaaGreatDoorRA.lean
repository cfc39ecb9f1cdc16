/- Recursive polynomials in memory. -/
import Derived.Test.YtkkliemgidhgmaaGreatDoorZI
namespace Go.Proofs.YtkkliemgidhgmaaGreatDoor
open Go.RowKit

/-- a recursive polynomial: the level, the constant, the coefficients -/
inductive RP where
  | mk (lv : Int) (ng : Bool) (ds : List Nat) (ks : List RP)
namespace RP
def lv : RP → Int | mk l _ _ _ => l
def ng : RP → Bool | mk _ g _ _ => g
def ds : RP → List Nat | mk _ _ d _ => d
def ks : RP → List RP | mk _ _ _ k => k
theorem eta (t : RP) : t = mk t.lv t.ng t.ds t.ks := by cases t; rfl
end RP
theorem at_ltR {l : List Nat} (h : Dig l) (k : Nat) : l.getD k 0 < 4294967296 := by
  rw [List.getD_eq_getElem?_getD]
  cases hk : l[k]? with
  | none => simp
  | some x => exact h x (List.mem_of_getElem? hk)
mutual
def depT : RP → Nat
  | .mk _ _ _ ks => depL ks + 1
def depL : List RP → Nat
  | [] => 0
  | t :: ts => max (depT t) (depL ts)
end
theorem depL_mem {ks : List RP} {t : RP} (h : t ∈ ks) : depT t ≤ depL ks := by
  induction ks with
  | nil => cases h
  | cons s ks ih =>
    simp only [depL]
    rcases List.mem_cons.1 h with rfl | h
    · omega
    · have := ih h; omega
theorem dep_kid {t u : RP} (h : u ∈ t.ks) : depT u < depT t := by
  cases t with
  | mk l g d ks =>
    have := depL_mem (show u ∈ ks from h)
    simp only [depT]
    omega
/-- cells that are read in blocks that S allows -/
def ReadsS (w : World) (S : Nat → Prop) (size : Nat) (A : Option Addr) (n : Nat) (xs : List Value) : Prop :=
  xs.length = n * size ∧ (0 < n → ∃ b o, A = some ⟨b, o, none⟩ ∧ S b ∧ ∀ j u, xs[j]? = some u → w.cell? ⟨b, o + j, none⟩ = some u)
section
variable {w w' : World} {S S' : Nat → Prop} {size n B : Nat} {A : Option Addr} {xs : List Value}
theorem ReadsS.keep (h : ReadsS w S size A n xs) (hk : ∀ b, S b → ∀ o, w'.cell? ⟨b, o, none⟩ = w.cell? ⟨b, o, none⟩) : ReadsS w' S size A n xs :=
  ⟨h.1, fun hp => by obtain ⟨b, o, e, hb, hc⟩ := h.2 hp; exact ⟨b, o, e, hb, fun j u hu => (hk b hb _).trans (hc j u hu)⟩⟩
theorem ReadsS.mono (h : ReadsS w S size A n xs) (hS : ∀ b, S b → S' b) : ReadsS w S' size A n xs :=
  ⟨h.1, fun hp => by obtain ⟨b, o, e, hb, hc⟩ := h.2 hp; exact ⟨b, o, e, hS b hb, hc⟩⟩
theorem ReadsS.to (h : ReadsS w S size A n xs) (hS : ∀ b, S b → b < B) : Reads w B size A n xs :=
  ⟨h.1, fun hp => by obtain ⟨b, o, e, hb, hc⟩ := h.2 hp; exact ⟨b, o, e, hS b hb, hc⟩⟩
theorem ReadsS.of (h : Reads w B size A n xs) (hS : ∀ b, b < B → S b) : ReadsS w S size A n xs :=
  ⟨h.1, fun hp => by obtain ⟨b, o, e, hb, hc⟩ := h.2 hp; exact ⟨b, o, e, hS b hb, hc⟩⟩
end
/-- the four cells of a node -/
def rcell (t : RP) (A : Option Addr) (c : Nat) (K : Option Addr) (kc : Nat) : List Value := [.int .i64 t.lv, .bool t.ng, .slice A t.ds.length c, .slice K t.ks.length kc]
mutual
def RV (w : World) (S : Nat → Prop) : RP → List Value → Prop
  | .mk l g ds ks, vs => ∃ A c K kc, vs = rcell (.mk l g ds ks) A c K kc ∧ ReadsS w S 1 A ds.length (u32s ds) ∧ Dig ds ∧ ds.length ≤ c ∧ ks.length ≤ kc ∧ ∃ rows, ReadsS w S 4 K ks.length rows.flatten ∧ RVs w S ks rows
def RVs (w : World) (S : Nat → Prop) : List RP → List (List Value) → Prop
  | [], rows => rows = []
  | t :: ts, rows => ∃ r rs, rows = r :: rs ∧ RV w S t r ∧ RVs w S ts rs
end
section
variable {w w' : World} {S S' : Nat → Prop}
mutual
theorem RV.keep (hk : ∀ b, S b → ∀ o, w'.cell? ⟨b, o, none⟩ = w.cell? ⟨b, o, none⟩) : ∀ (t : RP) (vs : List Value), RV w S t vs → RV w' S t vs
  | .mk l g ds ks, vs, h => by
    unfold RV at h ⊢
    obtain ⟨A, c, K, kc, h1, h2, h3, h4, h5, rows, h6, h7⟩ := h
    exact ⟨A, c, K, kc, h1, h2.keep hk, h3, h4, h5, rows, h6.keep hk, RVs.keep hk ks rows h7⟩
theorem RVs.keep (hk : ∀ b, S b → ∀ o, w'.cell? ⟨b, o, none⟩ = w.cell? ⟨b, o, none⟩) : ∀ (ts : List RP) (rows : List (List Value)), RVs w S ts rows → RVs w' S ts rows
  | [], rows, h => by unfold RVs at h ⊢; exact h
  | t :: ts, rows, h => by
    unfold RVs at h ⊢
    obtain ⟨r, rs, h1, h2, h3⟩ := h
    exact ⟨r, rs, h1, RV.keep hk t r h2, RVs.keep hk ts rs h3⟩
end
mutual
theorem RV.mono (hS : ∀ b, S b → S' b) : ∀ (t : RP) (vs : List Value), RV w S t vs → RV w S' t vs
  | .mk l g ds ks, vs, h => by
    unfold RV at h ⊢
    obtain ⟨A, c, K, kc, h1, h2, h3, h4, h5, rows, h6, h7⟩ := h
    exact ⟨A, c, K, kc, h1, h2.mono hS, h3, h4, h5, rows, h6.mono hS, RVs.mono hS ks rows h7⟩
theorem RVs.mono (hS : ∀ b, S b → S' b) : ∀ (ts : List RP) (rows : List (List Value)), RVs w S ts rows → RVs w S' ts rows
  | [], rows, h => by unfold RVs at h ⊢; exact h
  | t :: ts, rows, h => by
    unfold RVs at h ⊢
    obtain ⟨r, rs, h1, h2, h3⟩ := h
    exact ⟨r, rs, h1, RV.mono hS t r h2, RVs.mono hS ts rs h3⟩
end
theorem RV.cells {t : RP} {vs : List Value} (h : RV w S t vs) : ∃ A c K kc, vs = rcell t A c K kc := by
  cases t with
  | mk l g ds ks =>
    unfold RV at h
    obtain ⟨A, c, K, kc, h1, _⟩ := h
    exact ⟨A, c, K, kc, h1⟩
theorem RV.four {t : RP} {vs : List Value} (h : RV w S t vs) : vs.length = 4 := by
  obtain ⟨A, c, K, kc, rfl⟩ := h.cells
  rfl
theorem RVs.at_ : ∀ (ts : List RP) (rows : List (List Value)), RVs w S ts rows → (∀ r ∈ rows, r.length = 4) ∧ rows.length = ts.length ∧ ∀ (i : Nat) (t : RP), ts[i]? = some t → ∃ r, rows[i]? = some r ∧ RV w S t r
  | [], rows, h => by
    unfold RVs at h
    subst h
    simp
  | t :: ts, rows, h => by
    unfold RVs at h
    obtain ⟨r, rs, rfl, h2, h3⟩ := h
    obtain ⟨a1, a2, a3⟩ := RVs.at_ ts rs h3
    refine ⟨fun x hx => ?_, by simp [a2], fun i u hu => ?_⟩
    · rcases List.mem_cons.1 hx with rfl | hx
      · exact h2.four
      · exact a1 x hx
    · cases i with
      | zero => simp at hu; subst hu; exact ⟨r, rfl, h2⟩
      | succ i => simp at hu; obtain ⟨x, hx, hv⟩ := a3 i u hu; exact ⟨x, by simpa using hx, hv⟩
theorem flat4 : ∀ (rows : List (List Value)) (_ : ∀ r ∈ rows, r.length = 4) (i : Nat) (r : List Value) (_ : rows[i]? = some r) (j : Nat) (_ : j < 4), rows.flatten[i * 4 + j]? = r[j]?
  | [], _, i, r, h, _, _ => by simp at h
  | x :: rows, h4, 0, r, h, j, hj => by
    simp at h
    subst h
    have := h4 x List.mem_cons_self
    rw [List.flatten_cons, Nat.zero_mul, Nat.zero_add, List.getElem?_append_left (by omega)]
  | x :: rows, h4, i + 1, r, h, j, hj => by
    have h1 := h4 x List.mem_cons_self
    rw [List.flatten_cons, List.getElem?_append_right (by omega), h1, show (i + 1) * 4 + j - 4 = i * 4 + j by omega]
    exact flat4 rows (fun y hy => h4 y (List.mem_cons_of_mem _ hy)) i r (by simpa using h) j hj
/-- what a node tells -/
theorem RV.node {t : RP} {A : Option Addr} {c : Nat} {K : Option Addr} {kc : Nat} (h : RV w S t (rcell t A c K kc)) : ReadsS w S 1 A t.ds.length (u32s t.ds) ∧ Dig t.ds ∧ t.ds.length ≤ c ∧ t.ks.length ≤ kc := by
  cases t with
  | mk l g ds ks =>
    unfold RV at h
    obtain ⟨A', c', K', kc', h1, h2, h3, h4, h5, _⟩ := h
    unfold rcell at h1
    simp only [List.cons.injEq, Value.slice.injEq, and_true, true_and] at h1
    obtain ⟨⟨rfl, _, rfl⟩, rfl, _, rfl⟩ := h1
    exact ⟨h2, h3, h4, h5⟩
theorem RV.kid {t : RP} {A : Option Addr} {c : Nat} {K : Option Addr} {kc : Nat} (h : RV w S t (rcell t A c K kc)) {i : Nat} {u : RP} (hi : t.ks[i]? = some u) :
    ∃ b o A' c' K' kc', K = some ⟨b, o, none⟩ ∧ S b ∧ w.cell? ⟨b, o + i * 4, none⟩ = some (.int .i64 u.lv) ∧ w.cell? ⟨b, o + i * 4 + 1, none⟩ = some (.bool u.ng) ∧
      w.cell? ⟨b, o + i * 4 + 2, none⟩ = some (.slice A' u.ds.length c') ∧ w.cell? ⟨b, o + i * 4 + 3, none⟩ = some (.slice K' u.ks.length kc') ∧ RV w S u (rcell u A' c' K' kc') := by
  cases t with
  | mk l g ds ks =>
    unfold RV at h
    obtain ⟨A1, c1, K1, kc1, h1, _, _, _, _, rows, h6, h7⟩ := h
    unfold rcell at h1
    simp only [List.cons.injEq, Value.slice.injEq, and_true, true_and] at h1
    obtain ⟨_, rfl, _, rfl⟩ := h1
    have hi' : ks[i]? = some u := hi
    have hl : i < ks.length := (List.getElem?_eq_some_iff.1 hi').1
    obtain ⟨a1, a2, a3⟩ := RVs.at_ ks rows h7
    obtain ⟨r, hr, hv⟩ := a3 i u hi'
    obtain ⟨A', c', K', kc', rfl⟩ := hv.cells
    obtain ⟨b, o, hA, hb, hc⟩ := h6.2 (by show 0 < ks.length; omega)
    have f := fun j hj v (hv : (rcell u A' c' K' kc')[j]? = some v) => hc (i * 4 + j) v ((flat4 rows a1 i _ hr j hj).trans hv)
    exact ⟨b, o, A', c', K', kc', hA, hb, f 0 (by omega) _ rfl, f 1 (by omega) _ rfl, f 2 (by omega) _ rfl, f 3 (by omega) _ rfl, hv⟩
end
/-- a polynomial below a block -/
theorem RV.below {w w' : World} {B : Nat} {t : RP} {vs : List Value} (h : RV w (· < B) t vs) (hb : Below B w w') : RV w' (· < B) t vs := RV.keep (fun b hS o => hb.cell (p := ⟨b, o, none⟩) hS) t vs h
theorem RV.more {w : World} {B B' : Nat} {t : RP} {vs : List Value} (h : RV w (· < B) t vs) (hB : B ≤ B') : RV w (· < B') t vs := RV.mono (fun _ hS => Nat.lt_of_lt_of_le hS hB) t vs h
theorem RV.natIn {w : World} {B : Nat} {t : RP} {A : Option Addr} {c : Nat} {K : Option Addr} {kc : Nat} (h : RV w (· < B) t (rcell t A c K kc)) : NatIn w B A c t.ds := ⟨h.node.1.to (fun _ h => h), h.node.2.1, h.node.2.2.1⟩
end Go.Proofs.YtkkliemgidhgmaaGreatDoor
