/- Contracts of division.isZero, Quo, Exact. -/
import Derived.StillTailTactics
import Derived.Deep.RegionHeld3
import Derived.Test.YtpbapoanjkekmaaVL
namespace Go.Proofs.Ytpbapoanjkekmaa
open Go.RowKit

theorem sgnOf_zero (z : Int) : (sgnOf z == 0) = decide (z = 0) := by
  unfold sgnOf
  split
  · have : ¬ z = 0 := by omega
    simp [this]
  · split <;> simp_all
set_option maxHeartbeats 400000 in
theorem isZero_any (ng : Bool) (A : Option Addr) (c B : Nat) (ds : List Nat) (w : World) (hB : B ≤ w.heap.size) (h : NatIn w B A c ds) (hm : ds.length ≤ 1000000) :
    Calls Try.prog 80 #[.agg #[.bool ng, .slice A ds.length c]] w fun e w' => e = .returned (.bool (decide (ival ng ds = 0))) ∧ Below w.heap.size w w' := by
  have hbl0 := (Below.refl w.heap.size w).alloc (Nat.le_refl _) (.cells #[.bool ng, .slice A ds.length c] 31)
  have HS := Lib.hid (Sign_any ng A c B ds _ (Nat.le_trans hB hbl0.size) (h.below (hbl0.mono hB)) hm)
  have HB := Lib.hid hbl0
  have hz := sgnOf_zero (ival ng ds)
  rw [← hz]
  clear hbl0 hz h
  generalize sgnOf (ival ng ds) = sg at *
  go_enter Try.func80, Try.ntmps80
  go_wp2_with fail
  refine HS.out.mono ?_
  rintro e w1 ⟨rfl, rfl⟩
  go_wp2_with fail
  go_ret
  exact ⟨rfl, HB.out.alloc HB.out.size _⟩
/-- results: two rows in cells and a value -/
theorem results_cell2_tmp {P : Program} {fn : Func} {p q r : Tmp} {ty : TypeId} (h : fn.results = #[.cell p ty, .cell q ty, .tmp r]) (tmps : Array Value) (w : World) (g g' : Nat) (t : TypeId) (cs cs' : Array Value) (d : TypeDesc)
    (hp : tmps.getD p undef = .pointer (some ⟨g, 0, none⟩)) (hq : tmps.getD q undef = .pointer (some ⟨g', 0, none⟩)) (hc : Blk w g t cs) (hc' : Blk w g' t cs')
    (hu : P.underlying ty = some d) (hd : (match d with | .struct _ | .array _ _ => true | _ => false) = true) (hi : (P.info? ty).map (·.size) = some cs.size) (hi' : (P.info? ty).map (·.size) = some cs'.size) :
    (results fn tmps).run P w = .ok (.tuple #[.agg cs, .agg cs', tmps.getD r undef]) w := by
  have hp' : tmps[p]?.getD undef = .pointer (some ⟨g, 0, none⟩) := by simpa using hp
  have hq' : tmps[q]?.getD undef = .pointer (some ⟨g', 0, none⟩) := by simpa using hq
  simp [results, h, hp', hq', asAddr, run_loadVar_row w g t ty cs (0, 0) d hc hu hd hi, run_loadVar_row w g' t ty cs' (0, 0) d hc' hu hd hi']
theorem boxes4 (w : World) (t0 t1 t2 t3 : TypeId) (c0 c1 c2 c3 : Array Value) : Below w.heap.size w ((((w.alloc (.cells c0 t0)).alloc (.cells c1 t1)).alloc (.cells c2 t2)).alloc (.cells c3 t3)) ∧
    Blk ((((w.alloc (.cells c0 t0)).alloc (.cells c1 t1)).alloc (.cells c2 t2)).alloc (.cells c3 t3)) w.heap.size t0 c0 ∧ Blk ((((w.alloc (.cells c0 t0)).alloc (.cells c1 t1)).alloc (.cells c2 t2)).alloc (.cells c3 t3)) (w.heap.size + 1) t1 c1 ∧
    Blk ((((w.alloc (.cells c0 t0)).alloc (.cells c1 t1)).alloc (.cells c2 t2)).alloc (.cells c3 t3)) (w.heap.size + 2) t2 c2 ∧ Blk ((((w.alloc (.cells c0 t0)).alloc (.cells c1 t1)).alloc (.cells c2 t2)).alloc (.cells c3 t3)) (w.heap.size + 3) t3 c3 := by
  obtain ⟨h0, h1, h2, h3, hs⟩ := boxes3 w t0 t1 t2 c0 c1 c2
  refine ⟨h0.alloc h0.size _, h1.alloc _, h2.alloc _, h3.alloc _, ?_⟩
  have := Blk.new (((w.alloc (.cells c0 t0)).alloc (.cells c1 t1)).alloc (.cells c2 t2)) t3 c3
  rwa [hs] at this
theorem two_rows {w : World} {g g' : Nat} (p : Blk w g 31 #[.bool false, .slice none 0 0]) (p' : Blk w g' 31 #[.bool false, .slice none 0 0]) (hne : g ≠ g') (a b c d : Value) :
    Blk ((((w.setCell ⟨g, 0, none⟩ a).setCell ⟨g, 1, none⟩ b).setCell ⟨g', 0, none⟩ c).setCell ⟨g', 1, none⟩ d) g 31 #[a, b] ∧ Blk ((((w.setCell ⟨g, 0, none⟩ a).setCell ⟨g, 1, none⟩ b).setCell ⟨g', 0, none⟩ c).setCell ⟨g', 1, none⟩ d) g' 31 #[c, d] ∧
      ∀ (A : Option Addr) (ds : List Nat), NatB w A ds → NatB ((((w.setCell ⟨g, 0, none⟩ a).setCell ⟨g, 1, none⟩ b).setCell ⟨g', 0, none⟩ c).setCell ⟨g', 1, none⟩ d) A ds := by
  have p2 := (p.set_ 0 a).set_ 1 b
  have p3 := (p'.far (p := ⟨g, 0, none⟩) (Ne.symm hne) a).far (p := ⟨g, 1, none⟩) (Ne.symm hne) b
  refine ⟨(p2.far (p := ⟨g', 0, none⟩) hne c).far (p := ⟨g', 1, none⟩) hne d, (p3.set_ 0 c).set_ 1 d, fun A ds h => ?_⟩
  exact (h.store2 p (by decide) a b).store2 p3 (by decide) c d
theorem ne_add3 (n : Nat) : n ≠ n + 1 + 1 + 1 := by omega
theorem dig_ival (ng : Bool) (v : Nat) : (ival ng (dig v)).natAbs = v := by rw [ival_abs, val_dig]
/-- what Quo returns -/
def QuoRes (q r : Int) (w : World) (e : Ending) (w' : World) : Prop :=
  ∃ A c A' c', e = .returned (.tuple #[.agg #[.bool (decide (q < 0)), .slice A (dig q.natAbs).length c], .agg #[.bool (decide (r < 0)), .slice A' (dig r.natAbs).length c'], .int .i64 0]) ∧ (dig q.natAbs).length ≤ c ∧ (dig r.natAbs).length ≤ c' ∧ NatB w' A (dig q.natAbs) ∧ NatB w' A' (dig r.natAbs) ∧ Below w.heap.size w w'
set_option maxHeartbeats 4000000 in
set_option maxRecDepth 100000 in
theorem Quo_any (ng ng' : Bool) (A A' : Option Addr) (c c' B : Nat) (ds es : List Nat) (w : World) (hB : B ≤ w.heap.size) (h : NatIn w B A c ds) (h' : NatIn w B A' c' es) (hm : ds.length ≤ 400000) (hm' : es.length ≤ 400000) (hy : val es ≠ 0) :
    Calls Try.prog 79 #[.agg #[.bool ng, .slice A ds.length c], .agg #[.bool ng', .slice A' es.length c']] w (QuoRes (ival (!ng == ng') (dig (val ds / val es))) (ival ng (dig (val ds % val es))) w) := by
  have HX := Lib.hid (boxes4 w 31 31 31 31 #[.bool ng, .slice A ds.length c] #[.bool ng', .slice A' es.length c'] #[.bool false, .slice none 0 0] #[.bool false, .slice none 0 0])
  have hz := fun (W : World) (hW : Below w.heap.size w W) => isZero_any ng' A' c' B es W (Nat.le_trans hB hW.size) (h'.below (hW.mono hB)) (by omega)
  rw [show decide (ival ng' es = 0) = false by
    have := ival_abs ng' es
    have h0 : ¬ ival ng' es = 0 := fun e => by rw [e] at this; simp at this; omega
    simp [h0]] at hz
  have HZ := Lib.hid hz
  have HD := Lib.hid (fun (W : World) (hW : Below w.heap.size w W) => divide_any A A' c c' B ds es W (Nat.le_trans hB hW.size) h.cap h'.cap hm hm' (h.rd.below (hW.mono hB)) (h'.rd.below (hW.mono hB)) h.dg h'.dg hy)
  have hlq : (dig (val ds / val es)).length ≤ 400000 := Nat.le_trans (dig_mono (Nat.div_le_self _ _)) (Nat.le_trans (dig_len_le h.dg) hm)
  have hlr : (dig (val ds % val es)).length ≤ 400000 := Nat.le_trans (dig_mono (Nat.mod_le _ _)) (Nat.le_trans (dig_len_le h.dg) hm)
  have HF1 := Lib.hid (fun (W : World) (A : Option Addr) (c : Nat) (h1 : (dig (val ds / val es)).length ≤ c) (h2 : NatB W A (dig (val ds / val es))) => From_any (!ng == ng') A c W.heap.size (dig (val ds / val es)) W (Nat.le_refl _) h1 (by omega) h2.reads (dig_dig _))
  have HF2 := Lib.hid (fun (W : World) (A : Option Addr) (c : Nat) (h1 : (dig (val ds % val es)).length ≤ c) (h2 : NatB W A (dig (val ds % val es))) => From_any ng A c W.heap.size (dig (val ds % val es)) W (Nat.le_refl _) h1 (by omega) h2.reads (dig_dig _))
  unfold IntRes at HF1 HF2
  unfold DivideRes at HD
  rw [dig_ival] at HF1 HF2
  unfold QuoRes
  rw [dig_ival, dig_ival]
  clear h h' hy hz hlq hlr hm hm'
  generalize ival (!ng == ng') (dig (val ds / val es)) = q at *
  generalize ival ng (dig (val ds % val es)) = r at *
  generalize val ds / val es = Q at *
  generalize val ds % val es = R at *
  generalize ds.length = n at *
  generalize es.length = n' at *
  go_enter Try.func79, Try.ntmps79
  go_wp2_with fail
  generalize (((w.alloc (.cells #[.bool ng, .slice A n c] 31)).alloc (.cells #[.bool ng', .slice A' n' c'] 31)).alloc (.cells #[.bool false, .slice none 0 0] 31)).alloc (.cells #[.bool false, .slice none 0 0] 31) = W at *
  obtain ⟨hb0, k0, k1, k2, k3⟩ := HX.out
  have HZ1 := Lib.hid (HZ.out W hb0)
  clear HX HZ
  refine HZ1.out.mono ?_
  rintro e w1 ⟨rfl, hb1⟩
  have hb01 := hb0.trans (hb1.mono hb0.size)
  have HD1 := Lib.hid (HD.out w1 hb01)
  have j0 := k0.old hb1; have j1 := k1.old hb1; have j2 := k2.old hb1; have j3 := k3.old hb1
  have c1 : w1.cell? ⟨w.heap.size, 1, none⟩ = some (.slice A n c) := j0.cell 1
  have c3 : w1.cell? ⟨w.heap.size + 1, 1, none⟩ = some (.slice A' n' c') := j1.cell 1
  have HJ := Lib.hid (And.intro j0 (And.intro j1 (And.intro j2 j3)))
  clear k0 k1 k2 k3 j0 j1 j2 j3 HZ1 HD hb0 hb1
  go_wp2_with fail
  refine HD1.out.mono ?_
  rintro e w2 ⟨Aq, cq, Ar, cr, rfl, hcq, hcr, hnq, hnr, hb2⟩
  obtain ⟨j0, j1, j2, j3⟩ := HJ.out
  have k0 := j0.old hb2; have k1 := j1.old hb2; have k2 := j2.old hb2; have k3 := j3.old hb2
  have HB2 := Lib.hid (hb01.trans (hb2.mono hb01.size))
  have d0 : w2.drew.cell? ⟨w.heap.size, 0, none⟩ = some (.bool ng) := k0.cell 0
  have d1 : w2.drew.cell? ⟨w.heap.size + 1, 0, none⟩ = some (.bool ng') := k1.cell 0
  have l0 : w.heap.size < w2.drew.heap.size := k0.lt
  have l1 : w.heap.size + 1 < w2.drew.heap.size := k1.lt
  have K2 : Blk w2.drew (w.heap.size + 1 + 1) 31 #[.bool false, .slice none 0 0] := k2
  have K3 : Blk w2.drew (w.heap.size + 1 + 1 + 1) 31 #[.bool false, .slice none 0 0] := k3
  have nq : NatB w2.drew Aq (dig Q) := hnq
  have nr : NatB w2.drew Ar (dig R) := hnr
  clear HJ j0 j1 j2 j3 k0 k1 k2 k3 hb01 hb2 c1 c3 hnq hnr HD1
  have HG1 := Lib.hid (HF1.out w2.drew Aq cq hcq nq)
  have HG2 := Lib.hid (fun (W : World) (h : Below w2.drew.heap.size w2.drew W) => HF2.out W Ar cr hcr (nr.old h))
  clear HF1 HF2 nq nr hcq hcr
  go_wp2_with fail
  go_region_held3 (fun w' => w'.cell? ⟨w.heap.size, 0, none⟩ = some (.bool ng) ∧ w'.cell? ⟨w.heap.size + 1, 0, none⟩ = some (.bool ng'))
    (first | (with_reducible exact ⟨cell_far2 (cell_far2 r0 (ne_add2 _)) (ne_add3 _), cell_far2 (cell_far2 r1 (ne_add1 _)) (ne_add2 _)⟩) | (with_reducible exact ⟨cell_far2 r0 (ne_add2 _), cell_far2 r1 (ne_add1 _)⟩) | (with_reducible exact ⟨r0, r1⟩) | (with_reducible exact ⟨q0, q1⟩) | (with_reducible exact ⟨d0, d1⟩))
    (first | (go_at_call 63; (with_reducible refine HG1.out.mono ?_); rintro e w3 ⟨A3, c3, rfl, h31, h32, h33⟩; have q0 := (h33.cell l0).trans d0; have q1 := (h33.cell l1).trans d1) | (go_at_call 63; (with_reducible refine (HG2.out _ h33).mono ?_); rintro e w4 ⟨A4, c4, rfl, h41, h42, h43⟩; have r0 := (h43.cell (Nat.lt_of_lt_of_le l0 h33.size)).trans q0; have r1 := (h43.cell (Nat.lt_of_lt_of_le l1 h33.size)).trans q1; have p2 := (K2.old h33).old h43; have p3 := (K3.old h33).old h43; have d20 : w4.cell? ⟨w.heap.size + 1 + 1, 0, none⟩ = some (.bool false) := p2.cell 0; have d21 : w4.cell? ⟨w.heap.size + 1 + 1, 1, none⟩ = some (.slice none 0 0) := p2.cell 1; have d30 : w4.cell? ⟨w.heap.size + 1 + 1 + 1, 0, none⟩ = some (.bool false) := p3.cell 0; have d31 : w4.cell? ⟨w.heap.size + 1 + 1 + 1, 1, none⟩ = some (.slice none 0 0) := p3.cell 1; have f20 := p2.frozen 0; have f21 := p2.frozen 1; have f30 := p3.frozen 0; have f31 := p3.frozen 1))
  rename_i hH
  clear hH r0 r1 q0 q1 d0 d1 d20 d21 d30 d31 f20 f21 f30 f31 HG1 HG2
  have hnq4 := h32.old h43
  have hbw := (HB2.out.trans ((Drawn.drew w2).below _)).trans ((h33.trans (h43.mono h33.size)).mono HB2.out.size)
  have HF := Lib.hid (two_rows p2 p3 (Nat.ne_of_lt (Nat.lt_succ_self (w.heap.size + 1 + 1))) (.bool (decide (q < 0))) (.slice A3 (dig Q).length c3) (.bool (decide (r < 0))) (.slice A4 (dig R).length c4))
  have HN3 := Lib.hid hnq4; have HN4 := Lib.hid h42; have HB4 := Lib.hid hbw; have HC3 := Lib.hid h31; have HC4 := Lib.hid h41
  clear p2 p3 hnq4 h42 hbw h31 h41 h32 h33 h43 l0 l1 K2 K3
  go_wp2_with fail
  obtain ⟨x2, x3, xn⟩ := HF.out
  refine bodyPost_ret (results_cell2_tmp Try.results79 _ _ _ _ _ _ _ _ rfl rfl x2 x3 Try.underlying31 rfl Try.sizeInt Try.sizeInt) rfl ?_
  exact ⟨A3, c3, A4, c4, rfl, HC3.out, HC4.out, xn _ _ HN3.out, xn _ _ HN4.out, (((HB4.out.setCell (show w.heap.size ≤ w.heap.size + 1 + 1 by omega) _).setCell (show w.heap.size ≤ w.heap.size + 1 + 1 by omega) _).setCell (show w.heap.size ≤ w.heap.size + 1 + 1 + 1 by omega) _).setCell (show w.heap.size ≤ w.heap.size + 1 + 1 + 1 by omega) _⟩
/-- an exact quotient -/
theorem ival_quot {ng ng' : Bool} {ds es : List Nat} (hd : ival ng' es ∣ ival ng ds) (h0 : ival ng' es ≠ 0) : ival (!ng == ng') (dig (val ds / val es)) = ival ng ds / ival ng' es ∧ ival ng (dig (val ds % val es)) = 0 := by
  have hv : val es ∣ val ds := by
    have := Int.natAbs_dvd_natAbs.2 hd
    rwa [ival_abs, ival_abs] at this
  have hz : val es ≠ 0 := fun e => h0 (by unfold ival; rw [e]; cases ng' <;> rfl)
  obtain ⟨k, hk⟩ := hv
  rw [hk, Nat.mul_div_cancel_left _ (by omega), Nat.mul_mod_right]
  refine ⟨?_, by unfold ival; rw [val_dig]; cases ng <;> rfl⟩
  clear hd h0
  unfold ival
  rw [val_dig, hk]
  generalize val es = e at *
  have he : (e : Int) ≠ 0 := by omega
  have he' : -(e : Int) ≠ 0 := by omega
  cases ng <;> cases ng'
  · show (k : Int) = ((e * k : Nat) : Int) / (e : Int)
    exact (Int.ediv_eq_of_eq_mul_right he (by rw [Int.natCast_mul])).symm
  · show -(k : Int) = ((e * k : Nat) : Int) / -(e : Int)
    exact (Int.ediv_eq_of_eq_mul_right he' (by rw [Int.natCast_mul, Int.neg_mul_neg])).symm
  · show -(k : Int) = -((e * k : Nat) : Int) / (e : Int)
    exact (Int.ediv_eq_of_eq_mul_right he (by rw [Int.natCast_mul, Int.mul_neg])).symm
  · show (k : Int) = -((e * k : Nat) : Int) / -(e : Int)
    exact (Int.ediv_eq_of_eq_mul_right he' (by rw [Int.natCast_mul, Int.neg_mul])).symm
def ExactRes (q : Int) (w : World) (e : Ending) (w' : World) : Prop :=
  ∃ A c, e = .returned (.tuple #[.agg #[.bool (decide (q < 0)), .slice A (dig q.natAbs).length c], .int .i64 0]) ∧ (dig q.natAbs).length ≤ c ∧ NatB w' A (dig q.natAbs) ∧ Below w.heap.size w w'
set_option maxHeartbeats 4000000 in
set_option maxRecDepth 100000 in
theorem Exact_any (ng ng' : Bool) (A A' : Option Addr) (c c' B : Nat) (ds es : List Nat) (w : World) (hB : B ≤ w.heap.size) (h : NatIn w B A c ds) (h' : NatIn w B A' c' es) (hm : ds.length ≤ 400000) (hm' : es.length ≤ 400000) (h0 : ival ng' es ≠ 0) (hd : ival ng' es ∣ ival ng ds) :
    Calls Try.prog 64 #[.agg #[.bool ng, .slice A ds.length c], .agg #[.bool ng', .slice A' es.length c']] w (ExactRes (ival ng ds / ival ng' es) w) := by
  have HX := Lib.hid (boxes3 w 31 31 31 #[.bool ng, .slice A ds.length c] #[.bool ng', .slice A' es.length c'] #[.bool false, .slice none 0 0])
  have hz : val es ≠ 0 := fun e => h0 (by unfold ival; rw [e]; cases ng' <;> rfl)
  have hq := fun (W : World) (hW : Below w.heap.size w W) => Quo_any ng ng' A A' c c' B ds es W (Nat.le_trans hB hW.size) (h.below (hW.mono hB)) (h'.below (hW.mono hB)) hm hm' hz
  obtain ⟨e1, e2⟩ := ival_quot hd h0
  rw [e1, e2] at hq
  unfold QuoRes at hq
  have hd0 : (decide ((0 : Int) < 0)) = false := by decide
  have hd1 : (dig (Int.natAbs 0)).length = 0 := by rw [show Int.natAbs 0 = 0 from rfl, dig_zero]; rfl
  rw [hd0, hd1] at hq
  have HQ := Lib.hid hq
  have HI := Lib.hid (fun (W : World) (A : Option Addr) (c : Nat) => isZero_any false A c W.heap.size [] W (Nat.le_refl _) ⟨⟨rfl, fun hp => absurd hp (Nat.lt_irrefl 0)⟩, by simp [Dig], Nat.zero_le _⟩ (by simp))
  rw [show decide (ival false [] = 0) = true from rfl, List.length_nil] at HI
  unfold ExactRes
  clear hq hz e1 e2 hd0 hd1 h h' hm hm' h0 hd
  generalize ival ng ds / ival ng' es = q at *
  generalize ds.length = n at *
  generalize es.length = n' at *
  go_enter Try.func64, Try.ntmps64
  go_wp2_with fail
  generalize ((w.alloc (.cells #[.bool ng, .slice A n c] 31)).alloc (.cells #[.bool ng', .slice A' n' c'] 31)).alloc (.cells #[.bool false, .slice none 0 0] 31) = W at *
  obtain ⟨hb0, k0, k1, k2, hs⟩ := HX.out
  have HQ1 := Lib.hid (HQ.out W hb0)
  have HS := Lib.hid hs
  clear HX HQ hs
  refine HQ1.out.mono ?_
  rintro e w1 ⟨A1, c1, A2, c2, rfl, h1, h2, h3, h4, hb1⟩
  have hb01 := hb0.trans (hb1.mono hb0.size)
  have m2 := k2.old hb1
  have HB1 := Lib.hid hb01; have HM := Lib.hid m2; have H1 := Lib.hid h1; have H3 := Lib.hid h3
  have HSZ := Lib.hid hb1.size
  clear k0 k1 k2 hb0 hb1 hb01 m2 h1 h2 h3 h4 HQ1
  go_wp2_with fail
  have HX2 := Lib.hid (boxes2 w1 31 31 #[.bool (decide (q < 0)), .slice A1 (dig q.natAbs).length c1] #[.bool false, .slice A2 0 c2])
  generalize (w1.alloc (.cells #[.bool (decide (q < 0)), .slice A1 (dig q.natAbs).length c1] 31)).alloc (.cells #[.bool false, .slice A2 0 c2] 31) = X at *
  have HI1 := Lib.hid (HI.out X A2 c2)
  clear HI
  refine HI1.out.mono ?_
  rintro e w5 ⟨rfl, hb5⟩
  obtain ⟨hbx, j0, _, _⟩ := HX2.out
  have kq := j0.old hb5
  have kr := (HM.out.old hbx).old hb5
  have g0 : w5.cell? ⟨w1.heap.size, 0, none⟩ = some (.bool (decide (q < 0))) := kq.cell 0
  have g1 : w5.cell? ⟨w1.heap.size, 1, none⟩ = some (.slice A1 (dig q.natAbs).length c1) := kq.cell 1
  have d0 : w5.cell? ⟨w.heap.size + 1 + 1, 0, none⟩ = some (.bool false) := kr.cell 0
  have d1 : w5.cell? ⟨w.heap.size + 1 + 1, 1, none⟩ = some (.slice none 0 0) := kr.cell 1
  have f0 : w5.frozen? ⟨w.heap.size + 1 + 1, 0, none⟩ = false := kr.frozen 0
  have f1 : w5.frozen? ⟨w.heap.size + 1 + 1, 1, none⟩ = false := kr.frozen 1
  have z0 : w.heap.size + 1 + 1 < w5.heap.size := kr.lt
  have HKR := Lib.hid kr
  have HBW := Lib.hid ((HB1.out.trans (hbx.mono HB1.out.size)).trans (hb5.mono (Nat.le_trans HB1.out.size hbx.size)))
  have HN5 := Lib.hid ((H3.out.old hbx).old hb5)
  clear kq kr hbx hb5 j0 HX2 HI1
  go_wp2_with fail
  exact ret_blk2 Try.results64 rfl rfl ((HKR.out.set_ 0 _).set_ 1 _) Try.underlying31 rfl Try.sizeInt ⟨A1, c1, rfl, H1.out, HN5.out.store2 HKR.out (by decide) _ _, (HBW.out.setCell (Nat.le_add_right _ 2) _).setCell (Nat.le_add_right _ 2) _⟩
end Go.Proofs.Ytpbapoanjkekmaa
