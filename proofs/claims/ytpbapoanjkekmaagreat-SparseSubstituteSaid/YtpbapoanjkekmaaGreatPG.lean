/- A point in memory; contracts of FewValues and values. -/
import Derived.IntWalk
import Derived.Test.YtpbapoanjkekmaaGreatPF
namespace Go.Proofs.YtpbapoanjkekmaaGreat
open Go.RowKit

/-- a placed rational number -/
structure QT where
  ng : Bool
  ds : List Nat
  A : Option Addr
  c : Nat
  es : List Nat
  D : Option Addr
  cd : Nat
def QT.q (x : QT) : Rat := mkRat (ival x.ng x.ds) (val x.es)
def QT.cells (x : QT) : List Value := [.bool x.ng, .slice x.A x.ds.length x.c, .slice x.D x.es.length x.cd]
abbrev QT.v (x : QT) : Value := .agg #[.bool x.ng, .slice x.A x.ds.length x.c, .slice x.D x.es.length x.cd]
theorem qflat_len (ps : List QT) : (ps.flatMap QT.cells).length = ps.length * 3 := by
  induction ps with
  | nil => rfl
  | cons p ps ih => rw [List.flatMap_cons, List.length_append, ih]; simp [QT.cells]; omega
theorem qflat_at (ps : List QT) (i j : Nat) (p : QT) (hi : ps[i]? = some p) (hj : j < 3) : (ps.flatMap QT.cells)[i * 3 + j]? = p.cells[j]? := by
  induction ps generalizing i with
  | nil => simp at hi
  | cons q ps ih =>
    rw [List.flatMap_cons]
    match i, hi with
    | 0, hi =>
      simp at hi
      subst hi
      rw [List.getElem?_append_left (by simp [QT.cells]; omega)]
      simp
    | i + 1, hi =>
      rw [List.getElem?_append_right (by simp [QT.cells]; omega)]
      have := ih i (by simpa using hi)
      rw [← this]
      congr 1
      simp [QT.cells]
      omega
/-- a point that the call may read: all of it below the block B -/
structure RatsIn (w : World) (B : Nat) (A : Option Addr) (vs : List QT) : Prop where
  rd : Reads w B 3 A vs.length (vs.flatMap QT.cells)
  nn : ∀ x ∈ vs, NatIn w B x.A x.c x.ds
  nd : ∀ x ∈ vs, NatIn w B x.D x.cd x.es
theorem RatsIn.below {w w' : World} {B : Nat} {A : Option Addr} {vs : List QT} (h : RatsIn w B A vs) (hb : Below B w w') : RatsIn w' B A vs := ⟨h.rd.below hb, fun p hp => (h.nn p hp).below hb, fun p hp => (h.nd p hp).below hb⟩
theorem RatsIn.more {w : World} {B B' : Nat} {A : Option Addr} {vs : List QT} (h : RatsIn w B A vs) (hB : B ≤ B') : RatsIn w B' A vs := ⟨h.rd.more hB, fun p hp => (h.nn p hp).more hB, fun p hp => (h.nd p hp).more hB⟩
theorem RatsIn.old {w w' : World} {A : Option Addr} {vs : List QT} (h : RatsIn w w.heap.size A vs) (hb : Below w.heap.size w w') : RatsIn w' w'.heap.size A vs := (h.below hb).more hb.size
theorem RatsIn.at_ {w : World} {B : Nat} {A : Option Addr} {vs : List QT} (h : RatsIn w B A vs) {k : Nat} {p : QT} (hk : vs[k]? = some p) :
    ∃ b o, A = some ⟨b, o, none⟩ ∧ b < B ∧ w.cell? ⟨b, o + k * 3, none⟩ = some (.bool p.ng) ∧ w.cell? ⟨b, o + k * 3 + 1, none⟩ = some (.slice p.A p.ds.length p.c) ∧ w.cell? ⟨b, o + k * 3 + 2, none⟩ = some (.slice p.D p.es.length p.cd) := by
  have hl : k < vs.length := (List.getElem?_eq_some_iff.1 hk).1
  obtain ⟨b, o, e, hb, hc⟩ := h.rd.2 (by omega)
  have f := fun j hj u (hu : p.cells[j]? = some u) => hc (k * 3 + j) u ((qflat_at vs k j p hk hj).trans hu)
  exact ⟨b, o, e, hb, f 0 (by omega) _ rfl, f 1 (by omega) _ rfl, f 2 (by omega) _ rfl⟩
/-- the coordinates, 0 behind the last -/
def ptL (vs : List QT) (i : Nat) : Rat := match vs[i]? with | some x => x.q | none => 0
theorem ptL_some {vs : List QT} {i : Nat} {x : QT} (h : vs[i]? = some x) : ptL vs i = x.q := by unfold ptL; rw [h]
theorem ptL_none {vs : List QT} {i : Nat} (h : vs.length ≤ i) : ptL vs i = 0 := by unfold ptL; rw [List.getElem?_eq_none h]
theorem ptL_RL {vs : List QT} {P : Nat} (h0 : 0 < P) (h : ∀ x ∈ vs, x.ds.length ≤ P ∧ x.es.length ≤ P ∧ Dig x.ds ∧ Dig x.es) (i : Nat) : RL (ptL vs i) P := by
  unfold ptL
  split
  · rename_i x hx
    obtain ⟨h1, h2, h3, h4⟩ := h x (List.mem_of_getElem? hx)
    exact mkRat_RL h0 h3 h4 h1 h2
  · exact RL.zero h0
def FVRes (t d : Nat) (vs : List QT) (w : World) (e : Ending) (w' : World) : Prop := ∃ b : Bool, e = .returned (.bool b) ∧ (b = true → vs.length ≤ t ∧ ∀ x ∈ vs, x.ds.length ≤ d ∧ x.es.length ≤ d) ∧ w = w'
set_option maxHeartbeats 4000000 in
set_option maxRecDepth 100000 in
theorem FV_any (A : Option Addr) (c B t d : Nat) (vs : List QT) (w : World) (h : RatsIn w B A vs) (ht : t ≤ 1000) : Calls Tryz.prog 29 #[.slice A vs.length c, .int .i64 (t : Int), .int .i64 (d : Int)] w (FVRes t d vs w) := by
  have H := Lib.hid h
  clear h
  generalize hpn : vs.length = pn at *
  have HP := Lib.hid hpn
  clear hpn
  by_cases hlen : pn ≤ t
  · go_enter Tryz.func29, Tryz.ntmps29
    have hl1 : ¬ (t : Int) < (pn : Int) := by omega
    go_wp2_with fail
    go_loopg [7] pn (fun gn ix wr => ∃ (k : Nat), k ≤ pn ∧ gn = pn - k ∧ ix = .int .i64 k ∧ (∀ p ∈ vs.take k, p.ds.length ≤ d ∧ p.es.length ≤ d) ∧ w = wr)
    case atStart => exact ⟨0, by omega, rfl, rfl, fun p hp => by simp at hp, rfl⟩
    case round =>
      obtain ⟨k, hk, hgk, rfl, hf, rfl⟩ := hrel
      have HG := Lib.hid hgk; have HF := Lib.hid hf
      clear hgk hf
      by_cases hlt : k < pn
      · obtain ⟨p, hp⟩ : ∃ p, vs[k]? = some p := ⟨_, List.getElem?_eq_getElem (by have := HP.out; omega)⟩
        obtain ⟨b, o, rfl, hbb, d0, d1, d2⟩ := H.out.at_ hp
        have i1 : (k : Int) < (pn : Int) := by omega
        have i0 : (0 : Int) ≤ (k : Int) := by omega
        have HTK := Lib.hid (show p.ds.length ≤ d → p.es.length ≤ d → ∀ q ∈ vs.take (k + 1), q.ds.length ≤ d ∧ q.es.length ≤ d by
          intro g1 g2 q hq
          rw [List.take_succ_eq_append_getElem (by have := HP.out; omega)] at hq
          rcases List.mem_append.1 hq with x | x
          · exact HF.out q x
          · simp at x
            rw [x.trans (List.getElem?_eq_some_iff.1 hp).2]
            exact ⟨g1, g2⟩)
        clear hp
        generalize p.ds.length = dl at *
        generalize p.es.length = el at *
        by_cases hdl : dl ≤ d
        · have hd1 : ¬ (d : Int) < (dl : Int) := by omega
          by_cases hel : el ≤ d
          · have hd2 : ¬ (d : Int) < (el : Int) := by omega
            have HN := Lib.hid (HTK.out hdl hel)
            go_wp2_with fail
            go_roundg (pn - (k + 1))
            case rel => exact ⟨k + 1, by omega, rfl, by go_num, HN.out, rfl⟩
            case measure => have := HG.out; omega
          · have hd2 : (d : Int) < (el : Int) := by omega
            go_wp2_with fail
            go_ret
            exact ⟨false, rfl, fun h => (by cases h), rfl⟩
        · have hd1 : (d : Int) < (dl : Int) := by omega
          go_wp2_with fail
          go_ret
          exact ⟨false, rfl, fun h => (by cases h), rfl⟩
      · obtain rfl : k = pn := by omega
        go_wp2_with fail
        go_ret
        refine ⟨true, rfl, fun _ => ⟨by rw [HP.out]; exact hlen, fun p hp => HF.out p ?_⟩, rfl⟩
        rw [← HP.out, List.take_length]
        exact hp
  · go_enter Tryz.func29, Tryz.ntmps29
    have hl1 : (t : Int) < (pn : Int) := by omega
    go_wp2_with fail
    go_ret
    exact ⟨false, rfl, fun h => (by cases h), rfl⟩
theorem values_any (A : Option Addr) (c B : Nat) (vs : List QT) (w : World) (h : RatsIn w B A vs) : Calls Tryz.prog 8 #[.slice A vs.length c] w (FVRes 6 2 vs w) := by
  have HF := Lib.hid (FV_any A c B 6 2 vs w h (by omega))
  clear h
  go_enter Tryz.func8, Tryz.ntmps8
  go_wp2_with fail
  refine HF.out.mono ?_
  rintro e w1 ⟨b, rfl, h1, rfl⟩
  go_wp2_with fail
  go_ret
  exact ⟨b, rfl, h1, rfl⟩
end Go.Proofs.YtpbapoanjkekmaaGreat
