/- Contracts of the package integer: Cmp, Same. -/
import Derived.Test.YtpbapoanjkekmaaI2
namespace Go.Proofs.Ytpbapoanjkekmaa
open Go.RowKit

def cmpZ (a b : Int) : Int := if a < b then -1 else if b < a then 1 else 0
theorem cmpZ_zero (a b : Int) : (cmpZ a b == 0) = decide (a = b) := by
  unfold cmpZ
  by_cases h : a < b
  · rw [if_pos h]; simp; omega
  · by_cases h2 : b < a
    · rw [if_neg h, if_pos h2]; simp; omega
    · rw [if_neg h, if_neg h2]; simp; omega
theorem cmpZ_sgn_lt {a b : Int} (h : sgnOf a < sgnOf b) : cmpZ a b = -1 := by
  unfold sgnOf at h
  unfold cmpZ
  rw [if_pos]
  repeat' split at h
  all_goals omega
theorem cmpZ_sgn_gt {a b : Int} (h : sgnOf b < sgnOf a) : cmpZ a b = 1 := by
  unfold sgnOf at h
  unfold cmpZ
  have : b < a := by
    repeat' split at h
    all_goals omega
  rw [if_neg (by omega), if_pos this]
theorem cmpZ_sgn_eq {ng ng' : Bool} {ds es : List Nat} (h : sgnOf (ival ng ds) = sgnOf (ival ng' es)) : cmpZ (ival ng ds) (ival ng' es) = if sgnOf (ival ng ds) < 0 then cmpN (val es) (val ds) else cmpN (val ds) (val es) := by
  unfold cmpZ cmpN
  unfold sgnOf at *
  unfold ival at *
  generalize val ds = x at *
  generalize val es = y at *
  cases ng <;> cases ng' <;> simp only [if_true, if_false, Bool.false_eq_true] at * <;> (repeat' split at h) <;> (repeat' split) <;> omega

set_option maxHeartbeats 1000000 in
set_option maxRecDepth 100000 in
theorem ICmp_any (ng ng' : Bool) (A A' : Option Addr) (c c' B : Nat) (ds es : List Nat) (w : World) (hB : B ≤ w.heap.size) (h : NatIn w B A c ds) (h' : NatIn w B A' c' es) (hm : ds.length ≤ 1000000) (hm' : es.length ≤ 1000000) :
    Calls Try.prog 52 #[.agg #[.bool ng, .slice A ds.length c], .agg #[.bool ng', .slice A' es.length c']] w fun e w' => e = .returned (.int .i64 (cmpZ (ival ng ds) (ival ng' es))) ∧ Below w.heap.size w w' := by
  have hsa := fun (W : World) (hb : Below w.heap.size w W) => Sign_any ng A c B ds W (Nat.le_trans hB hb.size) (h.below (hb.mono hB)) hm
  have hsb := fun (W : World) (hb : Below w.heap.size w W) => Sign_any ng' A' c' B es W (Nat.le_trans hB hb.size) (h'.below (hb.mono hB)) hm'
  have HSA := Lib.hid hsa; have HSB := Lib.hid hsb
  clear hsa hsb
  go_enter Try.func52, Try.ntmps52
  go_upto_region 1 with (fail)
  have hbl0 := ((Below.refl w.heap.size w).alloc (Nat.le_refl _) (.cells #[.bool ng, .slice A ds.length c] 31)).alloc (by simp) (.cells #[.bool ng', .slice A' es.length c'] 31)
  go_cut [5, 6] (fun s t wc => s = .int .i64 (sgnOf (ival ng ds)) ∧ t = .int .i64 (sgnOf (ival ng' es)) ∧ Below (w.heap.size + 2) ((w.alloc (.cells #[.bool ng, .slice A ds.length c] 31)).alloc (.cells #[.bool ng', .slice A' es.length c'] 31)) wc)
  case first =>
    have h1 := HSA.out _ hbl0.drew
    have h2 := HSB.out _ (hbl0.alloc (by simp; omega) (.cells #[.bool ng, .slice A ds.length c] 31)).drew
    have h3 := HSB.out _ hbl0.drew
    have h4 := HSA.out _ (hbl0.alloc (by simp; omega) (.cells #[.bool ng', .slice A' es.length c'] 31)).drew
    have H1 := Lib.hid h1; have H2 := Lib.hid h2; have H3 := Lib.hid h3; have H4 := Lib.hid h4
    clear h1 h2 h3 h4 hbl0 HSA HSB h h'
    generalize sgnOf (ival ng ds) = s1 at *
    generalize sgnOf (ival ng' es) = s2 at *
    go_region_with (go_at_call 45; first | (with_reducible refine H1.out.mono ?_; rintro e w1 ⟨rfl, rfl⟩) | (with_reducible refine H2.out.mono ?_; rintro e w1 ⟨rfl, rfl⟩) | (with_reducible refine H3.out.mono ?_; rintro e w1 ⟨rfl, rfl⟩) | (with_reducible refine H4.out.mono ?_; rintro e w1 ⟨rfl, rfl⟩))
    all_goals (go_wp2_with fail; go_meet; exact ⟨rfl, rfl, by repeat (first | exact Below.refl _ _ | refine Below.drew ?_ | refine Below.alloc ?_ (by simp; try omega) _)⟩)
  case rest =>
    obtain ⟨rfl, rfl, hbc⟩ := hcut
    have hz0 : ((w.alloc (.cells #[.bool ng, .slice A ds.length c] 31)).alloc (.cells #[.bool ng', .slice A' es.length c'] 31)).heap.size = w.heap.size + 2 := by simp
    have hbw := hbl0.trans (hbc.mono (by omega))
    have k1 : Blk wc w.heap.size 31 #[.bool ng, .slice A ds.length c] := ((Blk.new w 31 #[.bool ng, .slice A ds.length c]).alloc _).below hbc (by omega)
    have k2 : Blk wc (w.heap.size + 1) 31 #[.bool ng', .slice A' es.length c'] := by
      have := Blk.new (w.alloc (.cells #[.bool ng, .slice A ds.length c] 31)) 31 #[.bool ng', .slice A' es.length c']
      rw [show (w.alloc (.cells #[.bool ng, .slice A ds.length c] 31)).heap.size = w.heap.size + 1 by simp] at this
      exact this.below hbc (by omega)
    have d1 : wc.cell? ⟨w.heap.size, 1, none⟩ = some (.slice A ds.length c) := (k1.cell 1).trans rfl
    have d2 : wc.cell? ⟨w.heap.size + 1, 1, none⟩ = some (.slice A' es.length c') := (k2.cell 1).trans rfl
    have z1 := k1.lt
    have z2 := k2.lt
    have n1 := h.below (hbw.mono hB)
    have n2 := h'.below (hbw.mono hB)
    have hab := Cmp_any A A' c c' B ds es wc n1.cap n2.cap hm hm' n1.rd n2.rd n1.dg n2.dg
    have hba := Cmp_any A' A c' c B es ds wc n2.cap n1.cap hm' hm n2.rd n1.rd n2.dg n1.dg
    have HAB := Lib.hid hab; have HBA := Lib.hid hba; have HBW := Lib.hid hbw
    clear hab hba k1 k2 n1 n2 h h' hbc hbl0 hz0 HSA HSB hbw
    rcases Int.lt_trichotomy (sgnOf (ival ng ds)) (sgnOf (ival ng' es)) with hs | hs | hs
    · have hv : cmpZ (ival ng ds) (ival ng' es) = -1 := cmpZ_sgn_lt hs
      have HV := Lib.hid hv
      clear hv
      generalize sgnOf (ival ng ds) = s1 at *
      generalize sgnOf (ival ng' es) = s2 at *
      go_wp2_with fail
      go_ret
      exact ⟨by rw [HV.out]; rfl, HBW.out⟩
    · have hv := cmpZ_sgn_eq hs
      have HV := Lib.hid hv
      clear hv
      rw [← hs]
      clear hs
      generalize sgnOf (ival ng ds) = s1 at *
      by_cases h0 : s1 < 0
      · rw [if_pos h0] at HV
        generalize cmpN (val es) (val ds) = r at *
        go_wp2_with fail
        refine HBA.out.mono ?_
        rintro e w2 ⟨rfl, hd⟩
        go_wp2_with fail
        go_ret
        exact ⟨by rw [HV.out]; rfl, HBW.out.trans (hd.below _)⟩
      · rw [if_neg h0] at HV
        generalize cmpN (val ds) (val es) = r at *
        go_wp2_with fail
        refine HAB.out.mono ?_
        rintro e w2 ⟨rfl, hd⟩
        go_wp2_with fail
        go_ret
        exact ⟨by rw [HV.out]; rfl, HBW.out.trans (hd.below _)⟩
    · have hv : cmpZ (ival ng ds) (ival ng' es) = 1 := cmpZ_sgn_gt hs
      have HV := Lib.hid hv
      clear hv
      generalize sgnOf (ival ng ds) = s1 at *
      generalize sgnOf (ival ng' es) = s2 at *
      go_wp2_with fail
      go_ret
      exact ⟨by rw [HV.out]; rfl, HBW.out⟩

set_option maxHeartbeats 1000000 in
set_option maxRecDepth 100000 in
theorem Same_any (ng ng' : Bool) (A A' : Option Addr) (c c' B : Nat) (ds es : List Nat) (w : World) (hB : B ≤ w.heap.size) (h : NatIn w B A c ds) (h' : NatIn w B A' c' es) (hm : ds.length ≤ 1000000) (hm' : es.length ≤ 1000000) :
    Calls Try.prog 17 #[.agg #[.bool ng, .slice A ds.length c], .agg #[.bool ng', .slice A' es.length c']] w fun e w' => e = .returned (.bool (decide (ival ng ds = ival ng' es))) ∧ Below w.heap.size w w' := by
  have hbl0 := ((Below.refl w.heap.size w).alloc (Nat.le_refl _) (.cells #[.bool ng, .slice A ds.length c] 31)).alloc (by simp) (.cells #[.bool ng', .slice A' es.length c'] 31)
  have hc := ICmp_any ng ng' A A' c c' B ds es _ (Nat.le_trans hB hbl0.size) (h.below (hbl0.mono hB)) (h'.below (hbl0.mono hB)) hm hm'
  have hz0 : ((w.alloc (.cells #[.bool ng, .slice A ds.length c] 31)).alloc (.cells #[.bool ng', .slice A' es.length c'] 31)).heap.size = w.heap.size + 2 := by simp
  have HZ := Lib.hid hz0; have HBL := Lib.hid hbl0
  have HC := Lib.hid hc
  have hv := cmpZ_zero (ival ng ds) (ival ng' es)
  rw [← hv]
  clear hc h h' hbl0 hz0 hv
  generalize cmpZ (ival ng ds) (ival ng' es) = r at *
  go_enter Try.func17, Try.ntmps17
  go_wp2_with fail
  refine HC.out.mono ?_
  rintro e w2 ⟨rfl, hb⟩
  go_wp2_with fail
  go_ret
  exact ⟨rfl, HBL.out.trans (hb.mono (by rw [HZ.out]; omega))⟩
end Go.Proofs.Ytpbapoanjkekmaa
