/- Contract of the law's sign; plain laws of the order of canonical polynomials. -/
import Derived.Test.YtpbapoanjkekmaaR5
import Derived.Test.YtpbapoanjkekmaaH9
namespace Go.Proofs.Ytpbapoanjkekmaa
open Go.RowKit
attribute [local go_sem ↓] Go.wp_at_zero Go.wp_at_succ

def sgL : List Tm → Int
  | [] => 0
  | t :: _ => sgnOf t.1
def SignRes (F : Mo → Int) (w : World) (e : Ending) (w' : World) : Prop := ∃ P, Canon P ∧ (∀ m, cf P m = F m) ∧ e = .returned (.int .i64 (sgL P)) ∧ Below w.heap.size w w'

theorem cmpZ_neg (a b : Int) : cmpZ b a = -cmpZ a b := by unfold cmpZ; split <;> split <;> (try split) <;> omega
theorem cmpT_neg (s t : Tm) : cmpT t s = -cmpT s t := by
  unfold cmpT
  by_cases h : s.2 = t.2
  · rw [if_pos h, if_pos h.symm, cmpZ_neg]
  · rw [if_neg h, if_neg (Ne.symm h), cmpM_neg]
theorem cmpL_neg : ∀ (p q : List Tm), cmpL q p = -cmpL p q
  | [], [] => rfl
  | [], _ :: _ => rfl
  | _ :: _, [] => rfl
  | s :: p, t :: q => by
    have ih := cmpL_neg p q
    have e := cmpT_neg s t
    simp only [cmpL, e]
    by_cases h : cmpT s t = 0
    · simp [h, ih]
    · rw [if_neg (by omega), if_neg h]
theorem cmpZ_bd (a b : Int) : -1 ≤ cmpZ a b ∧ cmpZ a b ≤ 1 := by unfold cmpZ; split <;> (try split) <;> omega
theorem cmpM_bd (a b : Mo) : -1 ≤ cmpM a b ∧ cmpM a b ≤ 1 := by rw [cmpM_eq]; split <;> (try split) <;> omega
theorem cmpT_bd (s t : Tm) : -1 ≤ cmpT s t ∧ cmpT s t ≤ 1 := by
  unfold cmpT
  split
  · exact cmpZ_bd _ _
  · exact cmpM_bd _ _
theorem cmpL_bd : ∀ (p q : List Tm), -1 ≤ cmpL p q ∧ cmpL p q ≤ 1
  | [], [] => by simp [cmpL]
  | [], _ :: _ => by simp [cmpL]
  | _ :: _, [] => by simp [cmpL]
  | s :: p, t :: q => by
    simp only [cmpL]
    split
    · exact cmpL_bd p q
    · exact cmpT_bd s t
theorem sgnOf_bd (z : Int) : -1 ≤ sgnOf z ∧ sgnOf z ≤ 1 := by unfold sgnOf; split <;> (try split) <;> omega
theorem sgL_bd (p : List Tm) : -1 ≤ sgL p ∧ sgL p ≤ 1 := by
  cases p with
  | nil => simp [sgL]
  | cons t p => exact sgnOf_bd t.1
theorem cmpZ_opp {z : Int} (h : z ≠ 0) : cmpZ (-z) z = -sgnOf z := by unfold cmpZ sgnOf; split <;> split <;> (try split) <;> omega
/-- the negative of a canonical polynomial, compared with it -/
theorem cmpL_opp {p q : List Tm} (hp : Canon p) (hq : Canon q) (h : ∀ m, cf q m = -cf p m) : cmpL q p = -sgL p := by
  have e : q = sclL (-1) p := hq.unique (hp.scl (by omega)) fun m => by rw [h, cf_scl]; omega
  subst e
  cases p with
  | nil => rfl
  | cons t p =>
    have e1 : sclL (-1) (t :: p) = (t.1 * -1, t.2) :: sclL (-1) p := rfl
    have hz := hp.ne t (List.mem_cons_self ..)
    have e2 : cmpT (t.1 * -1, t.2) t = -sgnOf t.1 := by
      unfold cmpT
      rw [if_pos rfl]
      have := cmpZ_opp hz
      rw [show t.1 * -1 = -t.1 by omega]
      exact this
    have e3 : sgnOf t.1 ≠ 0 := by unfold sgnOf; split <;> (try split) <;> omega
    rw [e1]
    simp only [cmpL, e2, sgL]
    rw [if_neg (by omega)]

set_option maxHeartbeats 2000000 in
set_option maxRecDepth 100000 in
theorem sign_any (A : Option Addr) (c B N : Nat) (E : Int) (M : Nat) (ps : List PT) (w : World) (hB : B ≤ w.heap.size) (h : PIn w B A ps N E M) (hN : N ≤ 50000) (hM : M < Big) :
    Calls Try.prog 31 #[.slice A ps.length c] w (SignRes (cf (ps.map PT.tm)) w) := by
  have HP := Lib.hid (Normal_poly A c B N E M ps w hB h hN hM)
  clear h
  generalize cf (ps.map PT.tm) = F at *
  go_enter Try.func31, Try.ntmps31
  go_wp2_with fail
  refine HP.out.mono ?_
  rintro e W ⟨A1, c1, qs, rfl, hgd, hb⟩
  have HC := Lib.hid hgd.can; have HF := Lib.hid hgd.cf
  have hin := hgd.own.polyIn
  have hdl := fun p hp => hgd.dlen (k := 600) hM (p := p) hp
  have hlen := hgd.len
  have HI := Lib.hid hin
  clear hgd hin
  generalize hqn : qs.length = n at *
  have HQ := Lib.hid hqn
  clear hqn
  go_wp2_with fail
  go_loopg [4, 8] 0 (fun _ _ ix wr => ix = .int .i64 0 ∧ W = wr)
  case atStart => exact ⟨rfl, rfl⟩
  case round =>
    obtain ⟨rfl, rfl⟩ := hrel
    by_cases hlt : 0 < n
    · obtain ⟨p, hp⟩ : ∃ p, qs[0]? = some p := ⟨_, List.getElem?_eq_getElem (by have := HQ.out; omega)⟩
      have hpm := List.mem_of_getElem? hp
      obtain ⟨b, o, hA, hbb, d0, d1, d2, d3, d4, d5⟩ := HI.out.at_ hp
      subst hA
      have hsg : sgL (qs.map PT.tm) = sgnOf (ival p.ng p.ds) := by
        cases qs with
        | nil => simp at hp
        | cons q qs =>
          simp at hp
          subst hp
          rfl
      have HSG := Lib.hid hsg
      have HS := Lib.hid (fun (X : World) (hX : Below W.heap.size W X) => Sign_any p.ng p.A p.c W.heap.size p.ds X hX.size ((HI.out.nt p hpm).below hX) (by have := hdl p hpm; omega))
      have hbx := (Below.refl W.heap.size W).alloc (Nat.le_refl _) (.cells p.cells.toArray 35)
      simp only [PT.cells] at hbx
      have HBX := Lib.hid hbx
      have i1 : (0 : Int) < (n : Int) := by omega
      simp only [Nat.zero_mul, Nat.add_zero] at d0 d1 d2 d3 d4 d5
      clear hp hpm hsg hbx
      go_wp2_with fail
      refine (HS.out _ HBX.out).mono ?_
      rintro e w1 ⟨rfl, hw1⟩
      have hb1 : Below W.heap.size W w1 := by rw [hw1]; exact HBX.out.alloc HBX.out.size _
      clear hw1
      go_wp2_with fail
      go_ret
      exact ⟨_, HC.out, HF.out, by rw [HSG.out]; rfl, hb.trans (hb1.mono hb.size)⟩
    · obtain rfl : n = 0 := by omega
      have hnil : qs = [] := List.length_eq_zero_iff.1 HQ.out
      have HNL := Lib.hid hnil
      clear hnil
      go_wp2_with fail
      go_ret
      exact ⟨_, HC.out, HF.out, by rw [HNL.out]; rfl, hb⟩
end Go.Proofs.Ytpbapoanjkekmaa
