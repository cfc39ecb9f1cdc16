/- Words for memory that the walks of this seat share: a slice that reads as a list, a block known whole, small laws on worlds. -/
import Derived.WalkKit
import Derived.WalkSpells
import Derived.WalkLawsBesides
import Derived.Below
import Derived.Laws.OwnMore
import Derived.Deep.AppendLies
import Derived.Deep.Draws
import Derived.Laws.Rows
import Derived.Laws.BitsAllLaws
import Derived.Laws.BitsLemmas
import Derived.Lib.Hide
namespace Go.Proofs.Ytpbapoanjkekmaa
open Go.RowKit

/-- The slice value '.slice A n c' holds the cells xs ('size' cells an element) and lies below block B. -/
def Reads (w : World) (B size : Nat) (A : Option Addr) (n : Nat) (xs : List Value) : Prop :=
  xs.length = n * size ∧ (0 < n → ∃ b o, A = some ⟨b, o, none⟩ ∧ b < B ∧ ∀ j u, xs[j]? = some u → w.cell? ⟨b, o + j, none⟩ = some u)

section
variable {w w' : World} {B B' size n : Nat} {A : Option Addr} {xs : List Value}
theorem Reads.none_ : Reads w B size A 0 [] := ⟨by simp, fun h => absurd h (by omega)⟩
theorem Reads.keep (h : Reads w B size A n xs) (hk : ∀ p : Addr, p.block < B → w'.cell? p = w.cell? p) : Reads w' B size A n xs :=
  ⟨h.1, fun hn => by
    obtain ⟨b, o, e, hb, hc⟩ := h.2 hn
    exact ⟨b, o, e, hb, fun j u hu => (hk _ hb).trans (hc j u hu)⟩⟩
theorem Reads.more (h : Reads w B size A n xs) (hB : B ≤ B') : Reads w B' size A n xs :=
  ⟨h.1, fun hn => by
    obtain ⟨b, o, e, hb, hc⟩ := h.2 hn
    exact ⟨b, o, e, by omega, hc⟩⟩
theorem Reads.below (h : Reads w B size A n xs) (hb : Below B w w') : Reads w' B size A n xs := h.keep fun _ hp => hb.cell hp
end

/-- the world after some draws -/
def Drawn (w w' : World) : Prop := ∃ k, w' = w.drewN k
theorem Drawn.refl (w : World) : Drawn w w := ⟨0, rfl⟩
theorem Drawn.drewN (w : World) (n : Nat) : Drawn w (w.drewN n) := ⟨n, rfl⟩
theorem Drawn.drew (w : World) : Drawn w w.drew := ⟨1, rfl⟩
theorem Drawn.trans {a b c : World} (h : Drawn a b) (k : Drawn b c) : Drawn a c := by
  obtain ⟨n, rfl⟩ := h
  obtain ⟨m, rfl⟩ := k
  exact ⟨n + m, by rw [World.drewN_drewN]⟩
theorem Drawn.cell {w w' : World} (h : Drawn w w') (p : Addr) : w'.cell? p = w.cell? p := by obtain ⟨n, rfl⟩ := h; rfl
theorem Drawn.below {w w' : World} (h : Drawn w w') (B : Nat) : Below B w w' := by obtain ⟨n, rfl⟩ := h; exact ⟨rfl, rfl, rfl, Nat.le_refl _, fun _ _ => rfl⟩
theorem Drawn.heap {w w' : World} (h : Drawn w w') : w'.heap = w.heap := by obtain ⟨n, rfl⟩ := h; rfl
theorem Reads.drawn {w w' : World} {B size n : Nat} {A : Option Addr} {xs : List Value} (h : Reads w B size A n xs) (hd : Drawn w w') : Reads w' B size A n xs := h.keep fun p _ => hd.cell p
theorem Drawn.quiet {P : Program} {f : FuncId} {args : Array Value} {w : World} {n : Nat} {v : Value}
    (h : Calls P f args (w.drewN n) fun e w' => e = .returned v ∧ Drawn (w.drewN n) w') : Calls P f args (w.drewN n) fun e w'' => e = .returned v ∧ ∃ m, w'' = w.drewN m :=
  h.mono fun _ _ ⟨he, hm⟩ => ⟨he, (Drawn.drewN w n).trans hm⟩
theorem Reads.int_at {w : World} {B n k : Nat} {A : Option Addr} {l : List Int} (h : Reads w B 1 A n (l.map (Value.int .i64))) (hk : k < n) :
    ∃ b o, A = some ⟨b, o, none⟩ ∧ b < B ∧ w.cell? ⟨b, o + k, none⟩ = some (.int .i64 (l.getD k 0)) := by
  obtain ⟨b, o, e, hb, hc⟩ := h.2 (by omega)
  refine ⟨b, o, e, hb, hc k _ ?_⟩
  have hl : k < l.length := by have := h.1; simp at this; omega
  simp [List.getElem?_eq_getElem hl]
theorem getD_mem {l : List Int} {k : Nat} (h : k < l.length) : l.getD k 0 ∈ l := by
  simp [List.getElem?_eq_getElem h]
theorem ret_bool {a b : Bool} (h : a = b) : Ending.returned (.bool a) = .returned (.bool b) := by rw [h]

/-! ### rows: a slice of structs of a slice of ints and a bool; lists of lists of ints -/
def sg (rows : List (List Int × Bool)) (k : Nat) : List Int := (rows.getD k ([], false)).1
def tr (rows : List (List Int × Bool)) (k : Nat) : Bool := (rows.getD k ([], false)).2
def RowsAt (w : World) (B : Nat) (A : Option Addr) (rows : List (List Int × Bool)) : Prop :=
  0 < rows.length → ∃ b o, A = some ⟨b, o, none⟩ ∧ b < B ∧ ∀ k, k < rows.length → ∃ Ak ck, w.cell? ⟨b, o + k * 2, none⟩ = some (.slice Ak (sg rows k).length ck) ∧
    w.cell? ⟨b, o + k * 2 + 1, none⟩ = some (.bool (tr rows k)) ∧ Reads w B 1 Ak (sg rows k).length ((sg rows k).map (Value.int .i64))
theorem RowsAt.at_ {w : World} {B k : Nat} {A : Option Addr} {rows : List (List Int × Bool)} (h : RowsAt w B A rows) (hk : k < rows.length) :
    ∃ b o Ak ck, A = some ⟨b, o, none⟩ ∧ b < B ∧ w.cell? ⟨b, o + k * 2, none⟩ = some (.slice Ak (sg rows k).length ck) ∧ w.cell? ⟨b, o + k * 2 + 1, none⟩ = some (.bool (tr rows k)) ∧
      Reads w B 1 Ak (sg rows k).length ((sg rows k).map (Value.int .i64)) := by
  obtain ⟨b, o, e, hb, hc⟩ := h (by omega)
  obtain ⟨Ak, ck, h1, h2, h3⟩ := hc k hk
  exact ⟨b, o, Ak, ck, e, hb, h1, h2, h3⟩
theorem RowsAt.keep {w w' : World} {B : Nat} {A : Option Addr} {rows : List (List Int × Bool)} (h : RowsAt w B A rows) (hk : ∀ p : Addr, p.block < B → w'.cell? p = w.cell? p) : RowsAt w' B A rows := fun hn => by
  obtain ⟨b, o, e, hb, hc⟩ := h hn
  refine ⟨b, o, e, hb, fun k hkk => ?_⟩
  obtain ⟨Ak, ck, h1, h2, h3⟩ := hc k hkk
  exact ⟨Ak, ck, (hk _ hb).trans h1, (hk _ hb).trans h2, h3.keep hk⟩
theorem RowsAt.below {w w' : World} {B : Nat} {A : Option Addr} {rows : List (List Int × Bool)} (h : RowsAt w B A rows) (hb : Below B w w') : RowsAt w' B A rows := h.keep fun _ hp => hb.cell hp
theorem RowsAt.drawn {w w' : World} {B : Nat} {A : Option Addr} {rows : List (List Int × Bool)} (h : RowsAt w B A rows) (hd : Drawn w w') : RowsAt w' B A rows := h.keep fun p _ => hd.cell p
theorem RowsAt.more {w : World} {B B' : Nat} {A : Option Addr} {rows : List (List Int × Bool)} (h : RowsAt w B A rows) (hB : B ≤ B') : RowsAt w B' A rows := fun hn => by
  obtain ⟨b, o, e, hb, hc⟩ := h hn
  refine ⟨b, o, e, by omega, fun k hkk => ?_⟩
  obtain ⟨Ak, ck, h1, h2, h3⟩ := hc k hkk
  exact ⟨Ak, ck, h1, h2, h3.more hB⟩

def ListsAt (w : World) (B : Nat) (A : Option Addr) (ls : List (List Int)) : Prop :=
  0 < ls.length → ∃ b o, A = some ⟨b, o, none⟩ ∧ b < B ∧ ∀ k, k < ls.length → ∃ Ak ck, w.cell? ⟨b, o + k, none⟩ = some (.slice Ak (ls.getD k []).length ck) ∧
    Reads w B 1 Ak (ls.getD k []).length ((ls.getD k []).map (Value.int .i64))
theorem ListsAt.at_ {w : World} {B k : Nat} {A : Option Addr} {ls : List (List Int)} (h : ListsAt w B A ls) (hk : k < ls.length) :
    ∃ b o Ak ck, A = some ⟨b, o, none⟩ ∧ b < B ∧ w.cell? ⟨b, o + k, none⟩ = some (.slice Ak (ls.getD k []).length ck) ∧ Reads w B 1 Ak (ls.getD k []).length ((ls.getD k []).map (Value.int .i64)) := by
  obtain ⟨b, o, e, hb, hc⟩ := h (by omega)
  obtain ⟨Ak, ck, h1, h3⟩ := hc k hk
  exact ⟨b, o, Ak, ck, e, hb, h1, h3⟩
theorem ListsAt.keep {w w' : World} {B : Nat} {A : Option Addr} {ls : List (List Int)} (h : ListsAt w B A ls) (hk : ∀ p : Addr, p.block < B → w'.cell? p = w.cell? p) : ListsAt w' B A ls := fun hn => by
  obtain ⟨b, o, e, hb, hc⟩ := h hn
  refine ⟨b, o, e, hb, fun k hkk => ?_⟩
  obtain ⟨Ak, ck, h1, h3⟩ := hc k hkk
  exact ⟨Ak, ck, (hk _ hb).trans h1, h3.keep hk⟩
theorem ListsAt.below {w w' : World} {B : Nat} {A : Option Addr} {ls : List (List Int)} (h : ListsAt w B A ls) (hb : Below B w w') : ListsAt w' B A ls := h.keep fun _ hp => hb.cell hp
theorem ListsAt.drawn {w w' : World} {B : Nat} {A : Option Addr} {ls : List (List Int)} (h : ListsAt w B A ls) (hd : Drawn w w') : ListsAt w' B A ls := h.keep fun p _ => hd.cell p
theorem ListsAt.more {w : World} {B B' : Nat} {A : Option Addr} {ls : List (List Int)} (h : ListsAt w B A ls) (hB : B ≤ B') : ListsAt w B' A ls := fun hn => by
  obtain ⟨b, o, e, hb, hc⟩ := h hn
  refine ⟨b, o, e, by omega, fun k hkk => ?_⟩
  obtain ⟨Ak, ck, h1, h3⟩ := hc k hkk
  exact ⟨Ak, ck, h1, h3.more hB⟩
theorem Reads.len {w : World} {B n : Nat} {A : Option Addr} {l : List Int} (h : Reads w B 1 A n (l.map (Value.int .i64))) : l.length = n := by have := h.1; simpa using this
end Go.Proofs.Ytpbapoanjkekmaa
