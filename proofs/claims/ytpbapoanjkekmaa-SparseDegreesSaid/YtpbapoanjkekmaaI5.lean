/- Contracts of the package integer: Mul (one number of fewer than 48 digits). -/
import Derived.Test.YtpbapoanjkekmaaI4
import Derived.Deep.RegionHeld3
import Derived.Deep.DrawnRows
namespace Go.Proofs.Ytpbapoanjkekmaa
open Go.RowKit
attribute [local go_sem ↓] Go.wp_at_zero Go.wp_at_succ

theorem imul_abs (ng ng' : Bool) (ds es : List Nat) : (ival ng ds * ival ng' es).natAbs = val ds * val es := by
  rw [Int.natAbs_mul, ival_abs, ival_abs]
theorem dig_len_pos {v : Nat} : 0 < (dig v).length ↔ 0 < v := by
  have := @dig_len0 v
  omega
theorem imul_neg (ng ng' : Bool) (ds es : List Nat) : decide (ival ng ds * ival ng' es < 0) = ((!ng == ng') && decide (0 < (dig (val ds * val es)).length)) := by
  have h0 : ((val ds : Nat) : Int) * ((val es : Nat) : Int) = ((val ds * val es : Nat) : Int) := by simp
  have h1 := @dig_len_pos (val ds * val es)
  unfold ival
  cases ng <;> cases ng' <;> simp only [if_true, Bool.false_eq_true, if_false, Int.neg_mul, Int.mul_neg, h0] <;> simp [h1] <;> omega

theorem Blk.drewN {w : World} {g : Nat} {t : TypeId} {cs : Array Value} (h : Blk w g t cs) (n : Nat) : Blk (w.drewN n) g t cs := h
theorem cell_far2 {w : World} {g b o : Nat} {u v x : Value} (h : w.cell? ⟨b, o, none⟩ = some x) (hne : b ≠ g) : ((w.setCell ⟨g, 0, none⟩ u).setCell ⟨g, 1, none⟩ v).cell? ⟨b, o, none⟩ = some x := by
  rw [World.cell?_setCell_other _ _ _ _ (fun e => hne (congrArg Addr.block e).symm), World.cell?_setCell_other _ _ _ _ (fun e => hne (congrArg Addr.block e).symm)]
  exact h
theorem ne_add2 (n : Nat) : n ≠ n + 1 + 1 := by omega
theorem ne_add1 (n : Nat) : n ≠ n + 1 := by omega
theorem boxes2 (w : World) (t0 t1 : TypeId) (c0 c1 : Array Value) : Below w.heap.size w ((w.alloc (.cells c0 t0)).alloc (.cells c1 t1)) ∧ Blk ((w.alloc (.cells c0 t0)).alloc (.cells c1 t1)) w.heap.size t0 c0 ∧
    Blk ((w.alloc (.cells c0 t0)).alloc (.cells c1 t1)) (w.heap.size + 1) t1 c1 ∧ ((w.alloc (.cells c0 t0)).alloc (.cells c1 t1)).heap.size = w.heap.size + 2 := by
  refine ⟨((Below.refl w.heap.size w).alloc (Nat.le_refl _) _).alloc (by simp) _, (Blk.new w t0 c0).alloc _, ?_, by simp⟩
  have k1 := Blk.new (w.alloc (.cells c0 t0)) t1 c1
  simpa using k1
theorem boxes3 (w : World) (t0 t1 t2 : TypeId) (c0 c1 c2 : Array Value) : Below w.heap.size w (((w.alloc (.cells c0 t0)).alloc (.cells c1 t1)).alloc (.cells c2 t2)) ∧ Blk (((w.alloc (.cells c0 t0)).alloc (.cells c1 t1)).alloc (.cells c2 t2)) w.heap.size t0 c0 ∧
    Blk (((w.alloc (.cells c0 t0)).alloc (.cells c1 t1)).alloc (.cells c2 t2)) (w.heap.size + 1) t1 c1 ∧ Blk (((w.alloc (.cells c0 t0)).alloc (.cells c1 t1)).alloc (.cells c2 t2)) (w.heap.size + 2) t2 c2 ∧
    (((w.alloc (.cells c0 t0)).alloc (.cells c1 t1)).alloc (.cells c2 t2)).heap.size = w.heap.size + 3 := by
  obtain ⟨h1, h2, h3, h4⟩ := boxes2 w t0 t1 c0 c1
  refine ⟨h1.alloc (by omega) _, h2.alloc _, h3.alloc _, ?_, by simp⟩
  have k2 := Blk.new ((w.alloc (.cells c0 t0)).alloc (.cells c1 t1)) t2 c2
  simpa using k2

set_option maxHeartbeats 1000000 in
set_option maxRecDepth 100000 in
theorem IMul_any (ng ng' : Bool) (A A' : Option Addr) (c c' B : Nat) (ds es : List Nat) (w : World) (hB : B ≤ w.heap.size) (h : NatIn w B A c ds) (h' : NatIn w B A' c' es) (hm : ds.length + es.length ≤ 900000) (h48 : ds.length < 48 ∨ es.length < 48) :
    Calls Try.prog 16 #[.agg #[.bool ng, .slice A ds.length c], .agg #[.bool ng', .slice A' es.length c']] w (IntRes (ival ng ds * ival ng' es) w) := by
  have e1 := imul_neg ng ng' ds es
  have e2 := imul_abs ng ng' ds es
  have hn := fun (W : World) (hb : Below w.heap.size w W) => Mul_any A A' c c' B ds es W (Nat.le_trans hB hb.size) h.cap h'.cap hm h48 (h.rd.below (hb.mono hB)) (h'.rd.below (hb.mono hB)) h.dg h'.dg
  unfold IntRes
  rw [e1, e2]
  clear e1 e2
  unfold NatRes at hn
  have hm1 := h.cap; have hm2 := h'.cap
  clear h h'
  generalize dig (val ds * val es) = rs at *
  have HN := Lib.hid hn
  have HX := Lib.hid (boxes3 w 31 31 31 #[.bool ng, .slice A ds.length c] #[.bool ng', .slice A' es.length c'] #[.bool false, .slice none 0 0])
  clear hn
  go_enter Try.func16, Try.ntmps16
  go_wp2_with fail
  generalize ((w.alloc (.cells #[.bool ng, .slice A ds.length c] 31)).alloc (.cells #[.bool ng', .slice A' es.length c'] 31)).alloc (.cells #[.bool false, .slice none 0 0] 31) = W at *
  obtain ⟨hb0, k0, k1, k2, hs⟩ := HX.out
  have HS := Lib.hid hs
  clear hs HX
  have c0 : W.cell? ⟨w.heap.size, 0, none⟩ = some (.bool ng) := k0.cell 0
  have c1 : W.cell? ⟨w.heap.size, 1, none⟩ = some (.slice A ds.length c) := k0.cell 1
  have c2 : W.cell? ⟨w.heap.size + 1, 0, none⟩ = some (.bool ng') := k1.cell 0
  have c3 : W.cell? ⟨w.heap.size + 1, 1, none⟩ = some (.slice A' es.length c') := k1.cell 1
  have l0 := k0.lt; have l1 := k1.lt; have l2 := k2.lt
  have K2 : Blk W.drew (w.heap.size + 2) 31 #[.bool false, .slice none 0 0] := k2
  have hb0' : Below w.heap.size w W.drew := hb0.trans ((Drawn.drew _).below _)
  go_region_held3 (fun w' => w'.cell? ⟨w.heap.size, 0, none⟩ = some (.bool ng) ∧ w'.cell? ⟨w.heap.size, 1, none⟩ = some (.slice A ds.length c) ∧ w'.cell? ⟨w.heap.size + 1, 0, none⟩ = some (.bool ng') ∧ w'.cell? ⟨w.heap.size + 1, 1, none⟩ = some (.slice A' es.length c'))
    (first | exact ⟨c0, c1, c2, c3⟩ | exact ⟨(h3.cell l0).trans c0, (h3.cell l0).trans c1, (h3.cell l1).trans c2, (h3.cell l1).trans c3⟩ | exact ⟨q0, q1, q2, q3⟩ | exact ⟨cell_far2 q0 (ne_add2 _), cell_far2 q1 (ne_add2 _), cell_far2 q2 (ne_add1 _), cell_far2 q3 (ne_add1 _)⟩)
    (first | (go_at_call 51; refine (HN.out _ hb0').mono ?_; rintro e w1 ⟨A1, c1', rfl, h1, h2, h3⟩) | (go_at_call 50; refine (signed_any _ _ _ _ _).mono ?_; rintro e w2 ⟨rfl, h4⟩; have kk := (K2.old h3).old h4; have d0 : w2.cell? ⟨w.heap.size + 2, 0, none⟩ = some (.bool false) := kk.cell 0; have d1 : w2.cell? ⟨w.heap.size + 2, 1, none⟩ = some (.slice none 0 0) := kk.cell 1; have f0 := kk.frozen 0; have f1 := kk.frozen 1; have q0 := (h4.cell (Nat.lt_of_lt_of_le l0 h3.size)).trans ((h3.cell l0).trans c0); have q1 := (h4.cell (Nat.lt_of_lt_of_le l0 h3.size)).trans ((h3.cell l0).trans c1); have q2 := (h4.cell (Nat.lt_of_lt_of_le l1 h3.size)).trans ((h3.cell l1).trans c2); have q3 := (h4.cell (Nat.lt_of_lt_of_le l1 h3.size)).trans ((h3.cell l1).trans c3)))
  clear q0 q1 q2 q3 c0 c1 c2 c3 
  go_wp2_with fail
  have hbel := (hb0'.trans (h3.mono hb0'.size)).trans (h4.mono (Nat.le_trans hb0'.size h3.size))
  exact ret_blk Try.results16 rfl rfl ((kk.set_ 0 _).set_ 1 _) Try.underlying31 rfl Try.sizeInt ⟨A1, c1', rfl, h1, (h2.old h4).store2 kk (by decide) _ _, (hbel.setCell (Nat.le_add_right _ 2) _).setCell (Nat.le_add_right _ 2) _⟩
end Go.Proofs.Ytpbapoanjkekmaa
