/- Contracts of polytext.check and of polytext.Format. -/
import Derived.Test.YtnghlhcekghciaaGreatDoorXA
import Derived.Test.YtnghlhcekghciaaGreatDoorT3
namespace Go.Proofs.YtnghlhcekghciaaGreatDoor
open Go.RowKit

def TabT (w : World) : Prop := Lib.TabIs Tryz.prog w "internal/strconv.uint64pow10" .u64 Lib.pow10Tab
theorem TabT.on {w w' : World} (h : TabT w) (hb : Below w.heap.size w w') : TabT w' := (Lib.tabBelow_of_tabIs h) w' hb
theorem TabT.b {w : World} (h : TabT w) : TabB w.heap.size w := Lib.tabBelow_of_tabIs h
/-- a list of names that the call may read -/
structure NIn (w : World) (B : Nat) (A : Option Addr) (c : Nat) (ls : List Bs) : Prop where
  rd : Reads w B 1 A ls.length (ls.map strV)
  cap : ls.length ≤ c
  len : ls.length ≤ 1000000
  el : ∀ l ∈ ls, l.length ≤ 1000000
theorem NIn.below {w w' : World} {B c : Nat} {A : Option Addr} {ls : List Bs} (h : NIn w B A c ls) (hb : Below B w w') : NIn w' B A c ls := { h with rd := h.rd.below hb }
theorem NIn.more {w : World} {B B' c : Nat} {A : Option Addr} {ls : List Bs} (h : NIn w B A c ls) (hb : B ≤ B') : NIn w B' A c ls := { h with rd := h.rd.more hb }
theorem nameB_len {l : Bs} (h : nameB l = true) : 1 ≤ l.length ∧ l.length ≤ 16 := by
  simp only [nameB, Bool.and_eq_true, decide_eq_true_eq] at h
  exact ⟨h.1, h.2.1⟩
theorem namesB_ok {ls : List Bs} (h : namesB ls = true) : ls.length ≤ 4 ∧ ∀ l ∈ ls, nameB l = true := by
  simp only [namesB, Bool.and_eq_true, decide_eq_true_eq] at h
  refine ⟨h.1, fun l hl => ?_⟩
  obtain ⟨k, hk, rfl⟩ := List.getElem_of_mem hl
  have := namesTo_le h.2 (show k + 1 ≤ ls.length by omega)
  simp only [namesTo, Bool.and_eq_true] at this
  have e : ls.getD k [] = ls[k] := by simp [List.getElem?_eq_getElem hk]
  rw [e] at this
  exact this.2.1

def CheckRes (G : Mo → Int) (ls : List Bs) (N : Nat) (E : Int) (M : Nat) (w : World) (e : Ending) (w' : World) : Prop :=
  ((namesB ls = false ∧ e = .returned (.tuple #[.slice none 0 0, .int .i64 1])) ∨
    (namesB ls = true ∧ (∃ P, Canon P ∧ (∀ m, cf P m = G m) ∧ (ls.length : Int) < lvL P) ∧ e = .returned (.tuple #[.slice none 0 0, .int .i64 4])) ∨
    (namesB ls = true ∧ ∃ A c qs, e = .returned (.tuple #[.slice A qs.length c, .int .i64 0]) ∧ lvL (qs.map PT.tm) ≤ (ls.length : Int) ∧ PGood w' w.heap.size (.slice A qs.length c) qs G N E M)) ∧ Below w.heap.size w w'

set_option maxHeartbeats 1000000 in
set_option maxRecDepth 100000 in
theorem check_any (A A' : Option Addr) (c c' B N : Nat) (E : Int) (M : Nat) (ps : List PT) (ls : List Bs) (w : World) (hB : B ≤ w.heap.size) (h : PIn w B A ps N E M) (hN : N ≤ 50000) (hM : M < Big) (hn : NIn w B A' c' ls) :
    Calls Tryz.prog 23 #[.slice A ps.length c, .slice A' ls.length c'] w (CheckRes (cf (ps.map PT.tm)) ls N E M w) := by
  have HNM := Lib.hid (Names_any A' c' B ls w hn.rd hn.cap hn.len hn.el)
  have HLV := Lib.hid (Level_any A c B N E M ps w hB h hN hM)
  have HNL := Lib.hid (fun (W : World) (hW : Below w.heap.size w W) => Normal_poly A c B N E M ps W (Nat.le_trans hB hW.size) (h.below (hW.mono hB)) hN hM)
  generalize hG : cf (ps.map PT.tm) = G at *
  have HG := Lib.hid hG
  clear h hn hG
  cases hb : namesB ls with
  | false =>
    rw [hb] at HNM
    have HB := Lib.hid hb
    clear hb
    go_enter Tryz.func23, Tryz.ntmps23
    go_wp2_with fail
    refine HNM.out.mono ?_
    rintro e w1 ⟨rfl, rfl⟩
    go_wp2_with fail
    go_ret2
    exact ⟨.inl ⟨HB.out, rfl⟩, Below.refl _ _⟩
  | true =>
    rw [hb] at HNM
    have HB := Lib.hid hb
    clear hb
    go_enter Tryz.func23, Tryz.ntmps23
    go_wp2_with fail
    refine HNM.out.mono ?_
    rintro e w1 ⟨rfl, rfl⟩
    go_wp2_with fail
    refine HLV.out.mono ?_
    rintro e w1 ⟨⟨P, hP, hc, rfl⟩, hb1⟩
    have HP := Lib.hid hP; have HC := Lib.hid hc
    have hbd := lvL_bd P
    generalize hlv : lvL P = lv at *
    have HLP := Lib.hid hlv
    clear hP hc hlv
    by_cases hlt : (ls.length : Int) < lv
    · go_wp2_with fail
      go_ret2
      exact ⟨.inr (.inl ⟨HB.out, ⟨P, HP.out, HC.out, by rw [HLP.out]; exact hlt⟩, rfl⟩), hb1⟩
    · go_wp2_with fail
      refine (HNL.out _ hb1).mono ?_
      rintro e w2 ⟨A2, c2, qs, rfl, hgd, hb2⟩
      have HGD := Lib.hid hgd
      clear hgd
      go_wp2_with fail
      go_ret2
      have hgd := HGD.out
      refine ⟨.inr (.inr ⟨HB.out, A2, c2, qs, rfl, ?_, { hgd with own := hgd.own.mono hb1.size }⟩), hb1.trans (hb2.mono hb1.size)⟩
      rw [hgd.can.unique HP.out (fun m => (hgd.cf m).trans (HC.out m).symm), HLP.out]
      omega
end Go.Proofs.YtnghlhcekghciaaGreatDoor
