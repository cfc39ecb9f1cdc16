/- Contracts of natural.Mul and integer.Mul, for numbers of any length. -/
import Derived.Test.YtpbapoanjkekmaaGreatKC
namespace Go.Proofs.YtpbapoanjkekmaaGreat
open Go.RowKit

set_option maxHeartbeats 1000000 in
set_option maxRecDepth 100000 in
theorem Mul_big (A A' : Option Addr) (c c' B : Nat) (ds es : List Nat) (w : World) (hB : B ≤ w.heap.size) (hc : ds.length ≤ c) (hc' : es.length ≤ c') (hm : ds.length + es.length ≤ 900000)
    (hr : Reads w B 1 A ds.length (u32s ds)) (hr' : Reads w B 1 A' es.length (u32s es)) (hd : Dig ds) (hd' : Dig es) :
    Calls Tryz.prog 66 #[.slice A ds.length c, .slice A' es.length c'] w (NatRes (val ds * val es) w) := by
  have h1 := trim_any A c B ds w hc (by omega) hr hd
  have h2 := trim_any A' c' B es w hc' (by omega) hr' hd'
  have l1 := dig_len_le hd
  have l2 := dig_len_le hd'
  have h3 := product_any 900001 (Nat.le_refl _) A A' c c' B (dig (val ds)) (dig (val es)) w (by omega) hB ⟨reads_dig hr hd, dig_dig _, by omega⟩ ⟨reads_dig hr' hd', dig_dig _, by omega⟩
  rw [val_dig, val_dig] at h3
  have HN : Hid (dig (val ds) = dig (val ds)) := rfl
  generalize val ds = x at *
  generalize val es = y at *
  generalize dig x = a at *
  generalize dig y = b at *
  have H1 := Lib.hid h1; have H2 := Lib.hid h2; have H3 := Lib.hid h3
  clear h1 h2 h3 hr hr' hd hd' HN
  go_enter Tryz.func66, Tryz.ntmps66
  go_wp2_with fail
  refine (H1.out).mono ?_
  rintro e w1 ⟨rfl, rfl⟩
  go_wp2_with fail
  refine (H2.out).mono ?_
  rintro e w1 ⟨rfl, rfl⟩
  go_wp2_with fail
  refine (H3.out).mono ?_
  rintro e w1 ⟨A1, c1, zs, rfl, k1, k2, k3, k4, k5', k6⟩
  have k5 := k5'.nat
  clear k5'
  have h4 := trim_any A1 c1 _ zs w1 k1 (by omega) k5.reads k3
  have r4 := k5.dig k3
  have l4 := dig_len_le k3
  rw [k4] at h4 r4 l4
  generalize hws : dig (x * y) = ws at *
  have HW := Lib.hid hws; have H4 := Lib.hid h4
  clear hws h4 k2 k3 k4 k5
  go_wp2_with fail
  refine (H4.out).mono ?_
  rintro e w5 ⟨rfl, rfl⟩
  go_wp2_with fail
  go_ret
  exact ⟨A1, c1, by rw [HW.out]; rfl, by rw [HW.out]; omega, by rw [HW.out]; exact r4, k6⟩

set_option maxHeartbeats 1000000 in
set_option maxRecDepth 100000 in
theorem IMul_big (ng ng' : Bool) (A A' : Option Addr) (c c' B : Nat) (ds es : List Nat) (w : World) (hB : B ≤ w.heap.size) (h : NatIn w B A c ds) (h' : NatIn w B A' c' es) (hm : ds.length + es.length ≤ 900000) :
    Calls Tryz.prog 41 #[.agg #[.bool ng, .slice A ds.length c], .agg #[.bool ng', .slice A' es.length c']] w (IntRes (ival ng ds * ival ng' es) w) := by
  have e1 := imul_neg ng ng' ds es
  have e2 := imul_abs ng ng' ds es
  have hn := fun (W : World) (hb : Below w.heap.size w W) => Mul_big A A' c c' B ds es W (Nat.le_trans hB hb.size) h.cap h'.cap hm (h.rd.below (hb.mono hB)) (h'.rd.below (hb.mono hB)) h.dg h'.dg
  unfold IntRes
  rw [e1, e2]
  clear e1 e2
  unfold NatRes at hn
  have hm1 := h.cap; have hm2 := h'.cap
  clear h h'
  generalize dig (val ds * val es) = rs at *
  have HN := Lib.hid hn
  have HX := Lib.hid (boxes3 w 31 31 31 #[.bool ng, .slice A ds.length c] #[.bool ng', .slice A' es.length c'] #[.bool false, .slice none 0 0])
  clear hn
  go_enter Tryz.func41, Tryz.ntmps41
  go_wp2_with fail
  generalize ((w.alloc (.cells #[.bool ng, .slice A ds.length c] 31)).alloc (.cells #[.bool ng', .slice A' es.length c'] 31)).alloc (.cells #[.bool false, .slice none 0 0] 31) = W at *
  obtain ⟨hb0, k0, k1, k2, hs⟩ := HX.out
  have HS := Lib.hid hs
  clear hs HX
  have c0 : W.cell? ⟨w.heap.size, 0, none⟩ = some (.bool ng) := k0.cell 0
  have c1 : W.cell? ⟨w.heap.size, 1, none⟩ = some (.slice A ds.length c) := k0.cell 1
  have c2 : W.cell? ⟨w.heap.size + 1, 0, none⟩ = some (.bool ng') := k1.cell 0
  have c3 : W.cell? ⟨w.heap.size + 1, 1, none⟩ = some (.slice A' es.length c') := k1.cell 1
  have l0 := k0.lt; have l1 := k1.lt; have l2 := k2.lt
  have K2 : Blk W.drew (w.heap.size + 2) 31 #[.bool false, .slice none 0 0] := k2
  have hb0' : Below w.heap.size w W.drew := hb0.trans ((Drawn.drew _).below _)
  go_region_held3 (fun w' => w'.cell? ⟨w.heap.size, 0, none⟩ = some (.bool ng) ∧ w'.cell? ⟨w.heap.size, 1, none⟩ = some (.slice A ds.length c) ∧ w'.cell? ⟨w.heap.size + 1, 0, none⟩ = some (.bool ng') ∧ w'.cell? ⟨w.heap.size + 1, 1, none⟩ = some (.slice A' es.length c'))
    (first | exact ⟨c0, c1, c2, c3⟩ | exact ⟨(h3.cell l0).trans c0, (h3.cell l0).trans c1, (h3.cell l1).trans c2, (h3.cell l1).trans c3⟩ | exact ⟨q0, q1, q2, q3⟩ | exact ⟨cell_far2 q0 (ne_add2 _), cell_far2 q1 (ne_add2 _), cell_far2 q2 (ne_add1 _), cell_far2 q3 (ne_add1 _)⟩)
    (first | (go_at_call 66; refine (HN.out _ hb0').mono ?_; rintro e w1 ⟨A1, c1', rfl, h1, h2, h3⟩) | (go_at_call 62; refine (signed_any _ _ _ _ _).mono ?_; rintro e w2 ⟨rfl, h4⟩; have kk := (K2.old h3).old h4; have d0 : w2.cell? ⟨w.heap.size + 2, 0, none⟩ = some (.bool false) := kk.cell 0; have d1 : w2.cell? ⟨w.heap.size + 2, 1, none⟩ = some (.slice none 0 0) := kk.cell 1; have f0 := kk.frozen 0; have f1 := kk.frozen 1; have q0 := (h4.cell (Nat.lt_of_lt_of_le l0 h3.size)).trans ((h3.cell l0).trans c0); have q1 := (h4.cell (Nat.lt_of_lt_of_le l0 h3.size)).trans ((h3.cell l0).trans c1); have q2 := (h4.cell (Nat.lt_of_lt_of_le l1 h3.size)).trans ((h3.cell l1).trans c2); have q3 := (h4.cell (Nat.lt_of_lt_of_le l1 h3.size)).trans ((h3.cell l1).trans c3)))
  clear q0 q1 q2 q3 c0 c1 c2 c3 
  go_wp2_with fail
  have hbel := (hb0'.trans (h3.mono hb0'.size)).trans (h4.mono (Nat.le_trans hb0'.size h3.size))
  exact ret_blk Tryz.results41 rfl rfl ((kk.set_ 0 _).set_ 1 _) Tryz.underlying31 rfl Tryz.sizeInt ⟨A1, c1', rfl, h1, (h2.old h4).store2 kk (by decide) _ _, (hbel.setCell (Nat.le_add_right _ 2) _).setCell (Nat.le_add_right _ 2) _⟩
end Go.Proofs.YtpbapoanjkekmaaGreat
