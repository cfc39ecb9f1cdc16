/- Contracts of the package integer: Add, Sub. -/
import Derived.Test.YtpbapoanjkekmaaI5
namespace Go.Proofs.Ytpbapoanjkekmaa
open Go.RowKit
attribute [local go_sem ↓] Go.wp_at_zero Go.wp_at_succ

theorem iadd_same (ng : Bool) (ds es : List Nat) : (ival ng ds + ival ng es).natAbs = val ds + val es ∧ decide (ival ng ds + ival ng es < 0) = (ng && decide (0 < (dig (val ds + val es)).length)) := by
  have h1 := @dig_len_pos (val ds + val es)
  unfold ival
  cases ng
  · simp only [Bool.false_eq_true, if_false, Bool.false_and, decide_eq_false_iff_not]; omega
  · simp only [if_true, Bool.true_and, decide_eq_decide, h1]; omega
theorem iadd_ge (ng : Bool) (ds es : List Nat) (h : val es ≤ val ds) : (ival ng ds + ival (!ng) es).natAbs = val ds - val es ∧ decide (ival ng ds + ival (!ng) es < 0) = (ng && decide (0 < (dig (val ds - val es)).length)) := by
  have h1 := @dig_len_pos (val ds - val es)
  unfold ival
  cases ng
  · simp only [Bool.false_eq_true, if_false, Bool.false_and, Bool.not_false, if_true, decide_eq_false_iff_not]; omega
  · simp only [if_true, Bool.true_and, Bool.not_true, Bool.false_eq_true, if_false, decide_eq_decide, h1]; omega
theorem iadd_lt (ng : Bool) (ds es : List Nat) (h : val ds < val es) : (ival ng ds + ival (!ng) es).natAbs = val es - val ds ∧ decide (ival ng ds + ival (!ng) es < 0) = ((!ng) && decide (0 < (dig (val es - val ds)).length)) := by
  have h1 := @dig_len_pos (val es - val ds)
  unfold ival
  cases ng
  · simp only [Bool.false_eq_true, if_false, Bool.not_false, if_true, Bool.true_and, decide_eq_decide, h1]; omega
  · simp only [if_true, Bool.not_true, Bool.false_eq_true, if_false, Bool.false_and, decide_eq_false_iff_not]; omega
theorem cmpN_ge {a b : Nat} (h : b ≤ a) : 0 ≤ cmpN a b := by unfold cmpN; split <;> (try split) <;> omega
theorem cmpN_lt {a b : Nat} (h : a < b) : cmpN a b < 0 := by unfold cmpN; rw [if_pos h]; omega

set_option maxHeartbeats 1000000 in
set_option maxRecDepth 100000 in
theorem IAdd_same (ng : Bool) (A A' : Option Addr) (c c' B : Nat) (ds es : List Nat) (w : World) (hB : B ≤ w.heap.size) (h : NatIn w B A c ds) (h' : NatIn w B A' c' es) (hm : ds.length ≤ 900000) (hm' : es.length ≤ 900000) :
    Calls Try.prog 37 #[.agg #[.bool ng, .slice A ds.length c], .agg #[.bool ng, .slice A' es.length c']] w (IntRes (ival ng ds + ival ng es) w) := by
  obtain ⟨e2, e1⟩ := iadd_same ng ds es
  have hn := fun (W : World) (hb : Below w.heap.size w W) => Add_any A A' c c' B ds es W (Nat.le_trans hB hb.size) h.cap h'.cap hm hm' (h.rd.below (hb.mono hB)) (h'.rd.below (hb.mono hB)) h.dg h'.dg
  unfold IntRes
  rw [e1, e2]
  clear e1 e2
  unfold NatRes at hn
  have hm1 := h.cap; have hm2 := h'.cap
  clear h h'
  generalize dig (val ds + val es) = rs at *
  have HN := Lib.hid hn
  have HX := Lib.hid (boxes3 w 31 31 31 #[.bool ng, .slice A ds.length c] #[.bool ng, .slice A' es.length c'] #[.bool false, .slice none 0 0])
  clear hn
  go_enter Try.func37, Try.ntmps37
  have hbb : (ng == ng) = true := by simp
  go_wp2_with fail
  generalize ((w.alloc (.cells #[.bool ng, .slice A ds.length c] 31)).alloc (.cells #[.bool ng, .slice A' es.length c'] 31)).alloc (.cells #[.bool false, .slice none 0 0] 31) = W at *
  obtain ⟨hb0, k0, k1, k2, hs⟩ := HX.out
  have HS := Lib.hid hs
  clear hs HX
  have c0 : W.cell? ⟨w.heap.size, 0, none⟩ = some (.bool ng) := k0.cell 0
  have c1 : W.cell? ⟨w.heap.size, 1, none⟩ = some (.slice A ds.length c) := k0.cell 1
  have c3 : W.cell? ⟨w.heap.size + 1, 1, none⟩ = some (.slice A' es.length c') := k1.cell 1
  have l0 := k0.lt; have l1 := k1.lt; have l2 := k2.lt
  have K2 : Blk W.drew (w.heap.size + 2) 31 #[.bool false, .slice none 0 0] := k2
  have hb0' : Below w.heap.size w W.drew := hb0.trans ((Drawn.drew _).below _)
  go_region_held3 (fun w' => w'.cell? ⟨w.heap.size, 0, none⟩ = some (.bool ng) ∧ w'.cell? ⟨w.heap.size, 1, none⟩ = some (.slice A ds.length c) ∧ w'.cell? ⟨w.heap.size + 1, 1, none⟩ = some (.slice A' es.length c'))
    (first | exact ⟨c0, c1, c3⟩ | exact ⟨(h3.cell l0).trans c0, (h3.cell l0).trans c1, (h3.cell l1).trans c3⟩ | exact ⟨q0, q1, q3⟩ | exact ⟨cell_far2 q0 (ne_add2 _), cell_far2 q1 (ne_add2 _), cell_far2 q3 (ne_add1 _)⟩)
    (first | (go_at_call 60; refine (HN.out _ hb0').mono ?_; rintro e w1 ⟨A1, c1', rfl, h1, h2, h3⟩) | (go_at_call 50; refine (signed_any _ _ _ _ _).mono ?_; rintro e w2 ⟨rfl, h4⟩; have kk := (K2.old h3).old h4; have d0 : w2.cell? ⟨w.heap.size + 2, 0, none⟩ = some (.bool false) := kk.cell 0; have d1 : w2.cell? ⟨w.heap.size + 2, 1, none⟩ = some (.slice none 0 0) := kk.cell 1; have f0 := kk.frozen 0; have f1 := kk.frozen 1; have q0 := (h4.cell (Nat.lt_of_lt_of_le l0 h3.size)).trans ((h3.cell l0).trans c0); have q1 := (h4.cell (Nat.lt_of_lt_of_le l0 h3.size)).trans ((h3.cell l0).trans c1); have q3 := (h4.cell (Nat.lt_of_lt_of_le l1 h3.size)).trans ((h3.cell l1).trans c3)))
  clear q0 q1 q3 c0 c1 c3
  go_wp2_with fail
  have hbel := (hb0'.trans (h3.mono hb0'.size)).trans (h4.mono (Nat.le_trans hb0'.size h3.size))
  exact ret_blk Try.results37 rfl rfl ((kk.set_ 0 _).set_ 1 _) Try.underlying31 rfl Try.sizeInt ⟨A1, c1', rfl, h1, (h2.old h4).store2 kk (by decide) _ _, (hbel.setCell (Nat.le_add_right _ 2) _).setCell (Nat.le_add_right _ 2) _⟩

set_option maxHeartbeats 1000000 in
set_option maxRecDepth 100000 in
theorem IAdd_other (ng : Bool) (A A' : Option Addr) (c c' B : Nat) (ds es : List Nat) (w : World) (hB : B ≤ w.heap.size) (h : NatIn w B A c ds) (h' : NatIn w B A' c' es) (hm : ds.length ≤ 900000) (hm' : es.length ≤ 900000) :
    Calls Try.prog 37 #[.agg #[.bool ng, .slice A ds.length c], .agg #[.bool (!ng), .slice A' es.length c']] w (IntRes (ival ng ds + ival (!ng) es) w) := by
  have hcp := fun (W : World) (hb : Below w.heap.size w W) => Cmp_any A A' c c' B ds es W h.cap h'.cap (by omega) (by omega) (h.rd.below (hb.mono hB)) (h'.rd.below (hb.mono hB)) h.dg h'.dg
  have HC := Lib.hid hcp
  clear hcp
  have HX := Lib.hid (boxes3 w 31 31 31 #[.bool ng, .slice A ds.length c] #[.bool (!ng), .slice A' es.length c'] #[.bool false, .slice none 0 0])
  have hm1 := h.cap; have hm2 := h'.cap
  have hbb : (ng == !ng) = false := by cases ng <;> rfl
  generalize hng : (!ng) = ng' at *
  have HNG := Lib.hid hng; clear hng
  by_cases hle : val es ≤ val ds
  · obtain ⟨e2, e1⟩ := iadd_ge ng ds es hle
    rw [HNG.out] at e1 e2
    have hn := fun (W : World) (hb : Below w.heap.size w W) => Sub_any A A' c c' B ds es W (Nat.le_trans hB hb.size) h.cap h'.cap hm hm' (h.rd.below (hb.mono hB)) (h'.rd.below (hb.mono hB)) h.dg h'.dg hle
    unfold IntRes
    rw [e1, e2]
    clear e1 e2
    unfold SubRes at hn
    clear h h'
    generalize dig (val ds - val es) = rs at *
    have hk := cmpN_ge hle
    generalize cmpN (val ds) (val es) = kk at *
    have HN := Lib.hid hn
    clear hn hle
    go_enter Try.func37, Try.ntmps37
    go_wp2_with fail
    generalize ((w.alloc (.cells #[.bool ng, .slice A ds.length c] 31)).alloc (.cells #[.bool ng', .slice A' es.length c'] 31)).alloc (.cells #[.bool false, .slice none 0 0] 31) = W at *
    obtain ⟨hb0, k0, k1, k2, hs⟩ := HX.out
    clear hs HX
    refine (HC.out _ hb0).mono ?_
    rintro e w1 ⟨rfl, hd⟩
    obtain ⟨nd, rfl⟩ := hd
    have k0' := k0.drewN nd; have k1' := k1.drewN nd; have k2' := k2.drewN nd
    have hb1 : Below w.heap.size w (W.drewN nd) := hb0.trans ((Drawn.drewN _ _).below _)
    clear k0 k1 k2 hb0 HC
    generalize W.drewN nd = W1 at *
    have c0 : W1.cell? ⟨w.heap.size, 0, none⟩ = some (.bool ng) := k0'.cell 0
    have c1 : W1.cell? ⟨w.heap.size, 1, none⟩ = some (.slice A ds.length c) := k0'.cell 1
    have c3 : W1.cell? ⟨w.heap.size + 1, 1, none⟩ = some (.slice A' es.length c') := k1'.cell 1
    have l0 := k0'.lt; have l1 := k1'.lt; have l2 := k2'.lt
    go_wp2_with fail
    refine (HN.out _ hb1).mono ?_
    rintro e w2 ⟨A1, c1', rfl, h1, h2, h3⟩
    have c0' := (h3.cell l0).trans c0
    have k3 := k2'.old h3
    clear c0 c1 c3
    go_wp2_with fail
    refine (signed_any _ _ _ _ _).mono ?_
    rintro e w3 ⟨rfl, h4⟩
    have k4 := k3.old h4
    have d0 : w3.cell? ⟨w.heap.size + 2, 0, none⟩ = some (.bool false) := k4.cell 0
    have d1 : w3.cell? ⟨w.heap.size + 2, 1, none⟩ = some (.slice none 0 0) := k4.cell 1
    have f0 := k4.frozen 0; have f1 := k4.frozen 1
    go_wp2_with fail
    have hbel := (hb1.trans (h3.mono hb1.size)).trans (h4.mono (Nat.le_trans hb1.size h3.size))
    exact ret_blk Try.results37 rfl rfl ((k4.set_ 0 _).set_ 1 _) Try.underlying31 rfl Try.sizeInt ⟨A1, c1', rfl, h1, (h2.old h4).store2 k4 (by decide) _ _, (hbel.setCell (Nat.le_add_right _ 2) _).setCell (Nat.le_add_right _ 2) _⟩
  · have hlt : val ds < val es := by omega
    obtain ⟨e2, e1⟩ := iadd_lt ng ds es hlt
    rw [HNG.out] at e1 e2
    have hn := fun (W : World) (hb : Below w.heap.size w W) => Sub_any A' A c' c B es ds W (Nat.le_trans hB hb.size) h'.cap h.cap hm' hm (h'.rd.below (hb.mono hB)) (h.rd.below (hb.mono hB)) h'.dg h.dg (Nat.le_of_lt hlt)
    unfold IntRes
    rw [e1, e2]
    clear e1 e2
    unfold SubRes at hn
    clear h h'
    generalize dig (val es - val ds) = rs at *
    have hk := cmpN_lt hlt
    generalize cmpN (val ds) (val es) = kk at *
    have HN := Lib.hid hn
    clear hn hle hlt
    go_enter Try.func37, Try.ntmps37
    go_wp2_with fail
    generalize ((w.alloc (.cells #[.bool ng, .slice A ds.length c] 31)).alloc (.cells #[.bool ng', .slice A' es.length c'] 31)).alloc (.cells #[.bool false, .slice none 0 0] 31) = W at *
    obtain ⟨hb0, k0, k1, k2, hs⟩ := HX.out
    clear hs HX
    refine (HC.out _ hb0).mono ?_
    rintro e w1 ⟨rfl, hd⟩
    obtain ⟨nd, rfl⟩ := hd
    have k0' := k0.drewN nd; have k1' := k1.drewN nd; have k2' := k2.drewN nd
    have hb1 : Below w.heap.size w (W.drewN nd) := hb0.trans ((Drawn.drewN _ _).below _)
    clear k0 k1 k2 hb0 HC
    generalize W.drewN nd = W1 at *
    have c1 : W1.cell? ⟨w.heap.size, 1, none⟩ = some (.slice A ds.length c) := k0'.cell 1
    have c2 : W1.cell? ⟨w.heap.size + 1, 0, none⟩ = some (.bool ng') := k1'.cell 0
    have c3 : W1.cell? ⟨w.heap.size + 1, 1, none⟩ = some (.slice A' es.length c') := k1'.cell 1
    have l0 := k0'.lt; have l1 := k1'.lt; have l2 := k2'.lt
    go_wp2_with fail
    refine (HN.out _ hb1).mono ?_
    rintro e w2 ⟨A1, c1', rfl, h1, h2, h3⟩
    have c0' := (h3.cell l1).trans c2
    have k3 := k2'.old h3
    clear c1 c2 c3
    go_wp2_with fail
    refine (signed_any _ _ _ _ _).mono ?_
    rintro e w3 ⟨rfl, h4⟩
    have k4 := k3.old h4
    have d0 : w3.cell? ⟨w.heap.size + 2, 0, none⟩ = some (.bool false) := k4.cell 0
    have d1 : w3.cell? ⟨w.heap.size + 2, 1, none⟩ = some (.slice none 0 0) := k4.cell 1
    have f0 := k4.frozen 0; have f1 := k4.frozen 1
    go_wp2_with fail
    have hbel := (hb1.trans (h3.mono hb1.size)).trans (h4.mono (Nat.le_trans hb1.size h3.size))
    exact ret_blk Try.results37 rfl rfl ((k4.set_ 0 _).set_ 1 _) Try.underlying31 rfl Try.sizeInt ⟨A1, c1', rfl, h1, (h2.old h4).store2 k4 (by decide) _ _, (hbel.setCell (Nat.le_add_right _ 2) _).setCell (Nat.le_add_right _ 2) _⟩
theorem IAdd_any (ng ng' : Bool) (A A' : Option Addr) (c c' B : Nat) (ds es : List Nat) (w : World) (hB : B ≤ w.heap.size) (h : NatIn w B A c ds) (h' : NatIn w B A' c' es) (hm : ds.length ≤ 900000) (hm' : es.length ≤ 900000) :
    Calls Try.prog 37 #[.agg #[.bool ng, .slice A ds.length c], .agg #[.bool ng', .slice A' es.length c']] w (IntRes (ival ng ds + ival ng' es) w) := by
  by_cases e : ng' = ng
  · subst e; exact IAdd_same ng' A A' c c' B ds es w hB h h' hm hm'
  · obtain rfl : ng' = !ng := by cases ng <;> cases ng' <;> simp at e ⊢
    exact IAdd_other ng A A' c c' B ds es w hB h h' hm hm'

set_option maxHeartbeats 1000000 in
set_option maxRecDepth 100000 in
theorem ISub_any (ng ng' : Bool) (A A' : Option Addr) (c c' B : Nat) (ds es : List Nat) (w : World) (hB : B ≤ w.heap.size) (h : NatIn w B A c ds) (h' : NatIn w B A' c' es) (hm : ds.length ≤ 900000) (hm' : es.length ≤ 900000) :
    Calls Try.prog 38 #[.agg #[.bool ng, .slice A ds.length c], .agg #[.bool ng', .slice A' es.length c']] w (IntRes (ival ng ds - ival ng' es) w) := by
  have hz : ival ng ds - ival ng' es = ival ng ds + ival (!ng') es := by unfold ival; cases ng' <;> simp <;> omega
  have hn := fun (W : World) (hb : Below w.heap.size w W) => IAdd_any ng (!ng') A A' c c' B ds es W (Nat.le_trans hB hb.size) (h.below (hb.mono hB)) (h'.below (hb.mono hB)) hm hm'
  rw [hz]
  unfold IntRes at hn ⊢
  generalize decide (ival ng ds + ival (!ng') es < 0) = sg at *
  generalize dig (ival ng ds + ival (!ng') es).natAbs = rs at *
  have hm1 := h.cap; have hm2 := h'.cap
  clear h h' hz
  have HN := Lib.hid hn
  have HX := Lib.hid (boxes3 w 31 31 31 #[.bool ng, .slice A ds.length c] #[.bool ng', .slice A' es.length c'] #[.bool false, .slice none 0 0])
  clear hn
  go_enter Try.func38, Try.ntmps38
  go_wp2_with fail
  generalize ((w.alloc (.cells #[.bool ng, .slice A ds.length c] 31)).alloc (.cells #[.bool ng', .slice A' es.length c'] 31)).alloc (.cells #[.bool false, .slice none 0 0] 31) = W at *
  obtain ⟨hb0, k0, k1, k2, hs⟩ := HX.out
  clear hs HX
  refine (HN.out _ hb0).mono ?_
  rintro e w1 ⟨A1, c1', rfl, h1, h2, h4⟩
  have k4 := k2.old h4
  have d0 : w1.cell? ⟨w.heap.size + 2, 0, none⟩ = some (.bool false) := k4.cell 0
  have d1 : w1.cell? ⟨w.heap.size + 2, 1, none⟩ = some (.slice none 0 0) := k4.cell 1
  have f0 := k4.frozen 0; have f1 := k4.frozen 1
  go_wp2_with fail
  have hbel := hb0.trans (h4.mono hb0.size)
  exact ret_blk Try.results38 rfl rfl ((k4.set_ 0 _).set_ 1 _) Try.underlying31 rfl Try.sizeInt ⟨A1, c1', rfl, h1, h2.store2 k4 (by decide) _ _, (hbel.setCell (Nat.le_add_right _ 2) _).setCell (Nat.le_add_right _ 2) _⟩
end Go.Proofs.Ytpbapoanjkekmaa
