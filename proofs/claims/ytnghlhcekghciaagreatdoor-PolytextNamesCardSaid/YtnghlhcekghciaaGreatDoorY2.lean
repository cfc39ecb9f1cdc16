/- Contracts of decimal.digit and decimal.split; plain words for decimal.parse. -/
import Derived.BigQuiet
import Derived.Test.YtnghlhcekghciaaGreatDoorX8
import Derived.Test.YtnghlhcekghciaaGreatDoorZT
namespace Go.Proofs.YtnghlhcekghciaaGreatDoor
open Go.RowKit

def digV (c : Nat) : Nat := if 48 ≤ c ∧ c ≤ 57 then c - 48 else if 97 ≤ c ∧ c ≤ 122 then c - 87 else 36
set_option maxHeartbeats 1000000 in
theorem digit_any (c : Nat) (hc : c ≤ 255) (w : World) : Calls Tryz.prog 100 #[.int .u8 (c : Int)] w fun e w' => e = .returned (.int .u32 (digV c : Int)) ∧ w = w' := by
  by_cases h : 48 ≤ c ∧ c ≤ 57
  · have HE : digV c = c - 48 := if_pos h
    rw [HE]
    rcases (by omega : c = 48 ∨ c = 49 ∨ c = 50 ∨ c = 51 ∨ c = 52 ∨ c = 53 ∨ c = 54 ∨ c = 55 ∨ c = 56 ∨ c = 57) with rfl | rfl | rfl | rfl | rfl | rfl | rfl | rfl | rfl | rfl
    all_goals
      clear h HE hc
      go_enter Tryz.func100, Tryz.ntmps100
      go_wp2
      go_ret
      exact ⟨rfl, rfl⟩
  · have e0 : ((c : Int) == 48) = false := by simp; omega
    have e1 : ((c : Int) == 49) = false := by simp; omega
    have e2 : ((c : Int) == 50) = false := by simp; omega
    have e3 : ((c : Int) == 51) = false := by simp; omega
    have e4 : ((c : Int) == 52) = false := by simp; omega
    have e5 : ((c : Int) == 53) = false := by simp; omega
    have e6 : ((c : Int) == 54) = false := by simp; omega
    have e7 : ((c : Int) == 55) = false := by simp; omega
    have e8 : ((c : Int) == 56) = false := by simp; omega
    have e9 : ((c : Int) == 57) = false := by simp; omega
    by_cases h1 : 97 ≤ c
    · have f1 : (97 : Int) ≤ (c : Int) := by omega
      by_cases h2 : c ≤ 122
      · have f2 : (c : Int) ≤ 122 := by omega
        have HE := Lib.hid (show (digV c : Int) = (c : Int) - 97 + 10 by unfold digV; rw [if_neg h, if_pos ⟨h1, h2⟩]; omega)
        clear h
        go_enter Tryz.func100, Tryz.ntmps100
        go_wp2
        go_ret
        exact ⟨by rw [HE.out]; rfl, rfl⟩
      · have f2 : ¬ (c : Int) ≤ 122 := by omega
        have HE := Lib.hid (show digV c = 36 by unfold digV; rw [if_neg h, if_neg (by omega)])
        clear h
        go_enter Tryz.func100, Tryz.ntmps100
        go_wp2
        go_ret
        exact ⟨by rw [HE.out]; rfl, rfl⟩
    · have f1 : ¬ (97 : Int) ≤ (c : Int) := by omega
      have HE := Lib.hid (show digV c = 36 by unfold digV; rw [if_neg h, if_neg (by omega)])
      clear h
      go_enter Tryz.func100, Tryz.ntmps100
      go_wp2
      go_ret
      exact ⟨by rw [HE.out]; rfl, rfl⟩
/-- the sign of a text, the rest -/
def sgnB (s : Bs) : Bool := s.head? == some 45
def sgnR (s : Bs) : Bs := if sgnB s then s.tail else s
theorem Tryz.str_first (b : UInt8) (r : Bs) (W : World) : (Instr.index 9 (.string ⟨(b :: r).toArray⟩) (.int .i64 0)).run Tryz.prog W = .ok (.int .u8 (b.toNat : Int)) W := Tryz.str_at (b :: r) 0 (by simp) W
theorem Tryz.str_rest (b : UInt8) (r : Bs) (W : World) : (Instr.slice 9 (.string ⟨(b :: r).toArray⟩) (some (.int .i64 1)) none none).run Tryz.prog W = .ok (.string ⟨r.toArray⟩) W := by
  have e : (⟨(b :: r).toArray⟩ : ByteArray).extract 1 (r.length + 1) = ⟨r.toArray⟩ := by
    apply ByteArray.ext
    rw [ByteArray.data_extract]
    apply Array.ext'
    simp
  simp [Instr.slice, run_underlying Tryz.underlying9, go_sem]
  rw [if_pos (by omega), e]
theorem split_any (s : Bs) (w : World) (hm : s.length ≤ 1000000) : Calls Tryz.prog 99 #[.string ⟨s.toArray⟩] w fun e w' => e = .returned (.tuple #[.bool (sgnB s), .string ⟨(sgnR s).toArray⟩]) ∧ Drawn w w' := by
  cases s with
  | nil =>
    go_enter Tryz.func99, Tryz.ntmps99
    go_wp2
    go_ret2
    exact ⟨rfl, Drawn.refl _⟩
  | cons b r =>
    have hix := fun (W : World) => Tryz.str_first b r W
    have hsl := fun (W : World) => Tryz.str_rest b r W
    by_cases hb : b = 45
    · subst hb
      rw [show ((45 : UInt8).toNat : Int) = 45 from rfl] at hix
      have hrl : (r.length : Int) ≤ 1000000 := by simp at hm; omega
      go_enter Tryz.func99, Tryz.ntmps99
      go_wp2_with fail
      go_quiet (fail)
      go_wp2_with fail
      go_ret2
      exact ⟨rfl, Drawn.drewN _ _⟩
    · have hbb : ((b.toNat : Int) == 45) = false := by
        simp only [beq_eq_false_iff_ne, ne_eq]
        intro e
        exact hb (UInt8.toNat_inj.1 (by have : (45 : UInt8).toNat = 45 := rfl; omega))
      have HE := Lib.hid (show sgnB (b :: r) = false ∧ sgnR (b :: r) = b :: r by
        have : sgnB (b :: r) = false := by simp [sgnB, hb]
        exact ⟨this, by unfold sgnR; rw [this]; rfl⟩)
      rw [HE.out.1, HE.out.2]
      have hrl : (r.length : Int) ≤ 1000000 := by simp at hm; omega
      generalize b.toNat = c at *
      clear HE hb
      go_enter Tryz.func99, Tryz.ntmps99
      go_wp2_with fail
      go_ret2
      exact ⟨rfl, Drawn.refl _⟩

/-- a text in decimal: the digits of no leading zero -/
def decOk (ng : Bool) (d : Bs) : Bool := !d.isEmpty && !(d.head? == some 48 && (ng || decide (1 < d.length))) && d.all fun c => decide (48 ≤ c.toNat ∧ c.toNat ≤ 57)
def decP (s : Bs) : Option Int := if decOk (sgnB s) (sgnR s) then some (if sgnB s then -(decV (sgnR s) : Int) else (decV (sgnR s) : Int)) else none
theorem digV_dig {c : Nat} (h : 48 ≤ c ∧ c ≤ 57) : digV c = c - 48 := if_pos h
theorem digV_not {c : Nat} (h : ¬ (48 ≤ c ∧ c ≤ 57)) : 10 ≤ digV c := by
  unfold digV
  rw [if_neg h]
  split <;> omega
theorem decV_take {l : Bs} {k : Nat} (h : k < l.length) : decV (l.take (k + 1)) = decV (l.take k) * 10 + ((l.getD k 0).toNat - 48) := by
  rw [List.take_succ_eq_append_getElem h, decV_snoc, List.getD_eq_getElem?_getD, List.getElem?_eq_getElem h]
  rfl
theorem foldl_dec (l : Bs) : ∀ a, l.foldl (fun a c => a * 10 + (c.toNat - 48)) a = a * 10 ^ l.length + decV l := by
  induction l with
  | nil => intro a; simp [decV]
  | cons c l ih =>
    intro a
    have e : decV (c :: l) = (c.toNat - 48) * 10 ^ l.length + decV l := by rw [decV, List.foldl_cons, ih]; simp
    rw [List.foldl_cons, ih, e, List.length_cons, Nat.pow_succ, Nat.add_mul, Nat.mul_assoc a 10, Nat.mul_comm 10, Nat.add_assoc]
theorem decV_append (a b : Bs) : decV (a ++ b) = decV a * 10 ^ b.length + decV b := by
  rw [decV, List.foldl_append, foldl_dec]
  rfl
theorem decV_lt {l : Bs} (h : l.all (fun c => decide (48 ≤ c.toNat ∧ c.toNat ≤ 57)) = true) : decV l < 10 ^ l.length := by
  induction l with
  | nil => simp [decV]
  | cons c l ih =>
    rw [List.all_cons, Bool.and_eq_true, decide_eq_true_eq] at h
    have ih := ih h.2
    rw [show c :: l = [c] ++ l from rfl, decV_append, List.length_append, List.length_singleton, Nat.pow_add]
    have e : decV [c] ≤ 9 := by simp [decV]; omega
    have := Nat.mul_le_mul_right (10 ^ l.length) e
    omega
end Go.Proofs.YtnghlhcekghciaaGreatDoor
