/- PolytextRenamed: the walk. -/
import Derived.Test.YtnghlhcekghciaaGreatDoorXD
import Derived.Test.YtnghlhcekghciaaGreatDoorZT
import Derived.Test.YtnghlhcekghciaaGreatDoorZR
namespace Go.Proofs.YtnghlhcekghciaaGreatDoor
open Go.RowKit

theorem pin21 {w : World} {B t : Nat} {A : Option Addr} {ps : List PT} (h : PolyIn w B A ps) (hw : ∀ p ∈ ps, WfM p.m) (hf : Few21 t ps) (ht : t ≤ 4294967296) : PIn w B A ps t 1073741824 (pw 21) where
  pin := h
  dl p hp := Nat.le_trans (hf.2 p hp).1 (by omega)
  wf := hw
  mb p hp _ := ⟨(hf.2 p hp).2 0 (by omega), (hf.2 p hp).2 1 (by omega), (hf.2 p hp).2 2 (by omega), (hf.2 p hp).2 3 (by omega)⟩
  len := hf.1
  nm := by
    have key : ∀ qs : List PT, (∀ p ∈ qs, val p.ds < pw 20) → nrm (qs.map PT.tm) ≤ qs.length * pw 20 := by
      intro qs
      induction qs with
      | nil => intro _; simp [nrm]
      | cons q qs ih =>
        intro hh
        have h1 := ih fun p hp => hh p (List.mem_cons_of_mem _ hp)
        have h2 := hh q (by simp)
        simp only [List.map_cons, nrm, List.length_cons, Nat.add_mul]
        have : q.tm.1.natAbs = val q.ds := ival_abs _ _
        omega
    have h1 := key ps fun p hp => val_pw (h.nt p hp).dg (hf.2 p hp).1
    have h2 : ps.length * pw 20 ≤ pw 1 * pw 20 := Nat.mul_le_mul_right _ (Nat.le_trans hf.1 (by unfold pw; omega))
    rw [pw_mul] at h2
    exact Nat.le_trans h1 h2
theorem big21 : pw 21 < Big := pw_lt (by decide)

def xyzw : List Bs := [[120], [121], [122], [119]]
def baQ_ : List Bs := [[98], [97], [81], [95]]
theorem xyzw_ok : namesB xyzw = true := by decide
theorem baQ_ok : namesB baQ_ = true := by decide
theorem NIn.new4 {w : World} {b : Nat} {l0 l1 l2 l3 : Bs} (h0 : l0.length ≤ 1000000) (h1 : l1.length ≤ 1000000) (h2 : l2.length ≤ 1000000) (h3 : l3.length ≤ 1000000) (hb : Blk w b 9 #[strV l0, strV l1, strV l2, strV l3]) : NIn w w.heap.size (some ⟨b, 0, none⟩) 4 [l0, l1, l2, l3] where
  rd := ⟨rfl, fun _ => ⟨b, 0, rfl, hb.lt, fun j u hu => by rw [Nat.zero_add, hb.cell]; simpa using hu⟩⟩
  cap := Nat.le_refl _
  len := by simp
  el x hx := by
    simp only [List.mem_cons, List.not_mem_nil, or_false] at hx
    rcases hx with rfl | rfl | rfl | rfl <;> assumption
theorem fmtV4 {ls : List Bs} (h : ls.length = 4) (P : List Tm) : fmtV ls P = .tuple #[.string ⟨(fmtS ls P).toArray⟩, .int .i64 0] := by
  unfold fmtV
  have := lvL_bd P
  rw [if_neg (by rw [h]; omega)]
/-- Format with four valid names -/
theorem Format_four (A A' : Option Addr) (c c' B N : Nat) (E : Int) (M : Nat) (ps : List PT) (ls : List Bs) (w : World) (hB : B ≤ w.heap.size) (h : PIn w B A ps N E M) (hN : N ≤ 10000) (hM : M < Big) (hE : E ≤ 4398046511104) (hn : NIn w B A' c' ls) (htab : TabT w) (h4 : ls.length = 4) (hok : namesB ls = true) :
    Calls Tryz.prog 12 #[.slice A ps.length c, .slice A' ls.length c'] w fun e w' => (∃ P, Canon P ∧ (∀ m, cf P m = cf (ps.map PT.tm) m) ∧ (fmtS ls P).length ≤ 100000000 ∧ e = .returned (.tuple #[.string ⟨(fmtS ls P).toArray⟩, .int .i64 0])) ∧ Below w.heap.size w w' := by
  refine (Format_any A A' c c' B N E M ps ls w hB h hN hM hE hn htab).mono ?_
  rintro e w' ⟨hr, hb⟩
  rcases hr with ⟨h1, _⟩ | ⟨_, P, hP, hc, hl, he⟩
  · rw [hok] at h1; cases h1
  · rw [fmtV4 h4] at he
    exact ⟨⟨P, hP, hc, hl (by have := lvL_bd P; rw [h4]; omega), he⟩, hb⟩

/-! ### the other letters -/
def rnm (c : UInt8) : UInt8 := if c = 120 then 98 else if c = 121 then 97 else if c = 122 then 81 else if c = 119 then 95 else c
theorem rnm_dig (c : UInt8) (h : isDig c) : rnm c = c := by
  have hn : ∀ k : UInt8, 57 < k.toNat → c ≠ k := fun k hk e => by unfold isDig at h; rw [e] at h; omega
  unfold rnm
  rw [if_neg (hn 120 (by decide)), if_neg (hn 121 (by decide)), if_neg (hn 122 (by decide)), if_neg (hn 119 (by decide))]
theorem rnm_nm (j : Nat) : nmAt baQ_ j = (nmAt xyzw j).map rnm := by
  rcases (by omega : j = 0 ∨ j = 1 ∨ j = 2 ∨ j = 3 ∨ 4 ≤ j) with rfl | rfl | rfl | rfl | h
  · decide
  · decide
  · decide
  · decide
  · unfold nmAt baQ_ xyzw
    rw [List.getD_eq_getElem?_getD, List.getD_eq_getElem?_getD, List.getElem?_eq_none (by simpa using h), List.getElem?_eq_none (by simpa using h)]
    rfl
theorem rnm_text (P : List Tm) : fmtS baQ_ P = (fmtS xyzw P).map rnm :=
  fmtS_map rnm_dig (by decide) (by decide) (by decide) (by decide) (by decide) rnm_nm P
theorem rnm_at {l : Bs} {k : Nat} (h : k < l.length) : (l.map rnm).getD k 0 = rnm (l.getD k 0) := by
  rw [List.getD_eq_getElem?_getD, List.getD_eq_getElem?_getD, List.getElem?_map, List.getElem?_eq_getElem h]
  rfl
theorem rnm_cases (x : UInt8) : (x.toNat = 120 ∧ (rnm x).toNat = 98) ∨ (x.toNat = 121 ∧ (rnm x).toNat = 97) ∨ (x.toNat = 122 ∧ (rnm x).toNat = 81) ∨ (x.toNat = 119 ∧ (rnm x).toNat = 95) ∨ (x.toNat ≠ 120 ∧ x.toNat ≠ 121 ∧ x.toNat ≠ 122 ∧ x.toNat ≠ 119 ∧ (rnm x).toNat = x.toNat) := by
  unfold rnm
  by_cases h0 : x = 120
  · subst h0; exact .inl ⟨rfl, rfl⟩
  by_cases h1 : x = 121
  · subst h1; exact .inr (.inl ⟨rfl, rfl⟩)
  by_cases h2 : x = 122
  · subst h2; exact .inr (.inr (.inl ⟨rfl, rfl⟩))
  by_cases h3 : x = 119
  · subst h3; exact .inr (.inr (.inr (.inl ⟨rfl, rfl⟩)))
  · rw [if_neg h0, if_neg h1, if_neg h2, if_neg h3]
    exact .inr (.inr (.inr (.inr ⟨fun e => h0 (UInt8.toNat_inj.1 e), fun e => h1 (UInt8.toNat_inj.1 e), fun e => h2 (UInt8.toNat_inj.1 e), fun e => h3 (UInt8.toNat_inj.1 e), rfl⟩)))

end Go.Proofs.YtnghlhcekghciaaGreatDoor
