/- Contract of sparse.Derivative. -/
import Derived.Test.YtpbapoanjkekmaaD3
import Derived.Test.YtpbapoanjkekmaaD4
namespace Go.Proofs.Ytpbapoanjkekmaa
open Go.RowKit Go.Shelf
attribute [local go_sem] Oper.semAt_some


set_option maxRecDepth 100000 in
set_option maxHeartbeats 4000000 in
theorem Deriv_4 (A : Option Addr) (c B N K : Nat) (E : Int) (M : Nat) (ps : List PT) (w : World) (hB : B ≤ w.heap.size) (h : PIn w B A ps N E M) (hN : N ≤ 50000) (hM : M < Big) (hE : E ≤ 9223372036854775807) (hK : E ≤ (K : Int)) (hKM : K * M < Big) :
    Calls Try.prog 32 #[.slice A ps.length c, .int .i64 4] w (PRes (dC 3 (ps.map PT.tm)) N E (K * M) w) := by
  have HT := Lib.hid (fun (W : World) (hW : Below w.heap.size w W) => Terms_any A c B N E M ps W (Nat.le_trans hB hW.size) (h.below (hW.mono hB)) hN hM)
  have HL := Lib.hid (fun (W : World) => show Calls Try.prog 53 #[.int .i64 4] W (fun e w' => e = .returned (.bool true) ∧ W = w') from lvl_any 4 W)
  have HNG := Lib.hid newG_any
  have HBW := Lib.hid (fun (w1 : World) (h0 : Below (w.alloc (.cells #[.int .i64 4] 3)).heap.size (w.alloc (.cells #[.int .i64 4] 3)) w1) => show Below w.heap.size w w1 from ((Below.refl _ w).alloc (Nat.le_refl _) _).trans (h0.mono (by simp)))
  have HBA := Lib.hid (fun (w1 : World) (o : Obj) (h0 : Below w.heap.size w w1) => show Below w.heap.size w (w1.alloc o) from h0.alloc h0.size o)
  clear h
  refine (callsIn_wide (n := 6)).1 ?_
  refine callsIn_of_wp_marks Try.func32 rfl trivial ?_ rfl
  simp only [Try.ntmps32, List.size_toArray, List.length_cons, List.length_nil, Nat.reduceAdd, Nat.reduceSub, Array.replicate_succ, Array.replicate_zero, List.push_toArray, List.append_toArray, List.nil_append, List.cons_append]
  gi_wp2_with (first
    | (refine ⟨trivial, ?_⟩; gi_at_call 53; refine (callsIn_wide.2 (HL.out _)).mono ?_; rintro e w0 ⟨rfl, rfl⟩)
    | (refine ⟨trivial, ?_⟩; gi_at_call 47; refine (callsIn_wide.2 (HNG.out _)).mono ?_; rintro e w1 ⟨g, mb, rfl, hg0, hb0⟩)
    | (refine ⟨trivial, ?_⟩; gi_at_call 24; refine (callsIn_wide.2 (HT.out _ (HBA.out _ _ (HBW.out _ hb0)))).mono ?_; rintro e w2 ⟨b, A1, c1, qs, rfl, hblk, hbb, hgd, hb⟩))
  have hb1 : Below w.heap.size w w1 := HBW.out _ hb0
  have hbT : Below w1.heap.size w1 w2 := ((Below.refl _ w1).alloc (Nat.le_refl _) _).trans (hb.mono (by simp))
  have hbw2 : Below w.heap.size w w2 := hb1.trans (hbT.mono hb1.size)
  have hg2 := hg0.old hbT
  have k3 : Blk w2 w.heap.size 3 #[.int .i64 4] := ((Blk.new w 3 #[.int .i64 4]).old hb0).old hbT
  have k5 : Blk w2 w1.heap.size 66 #[.pointer (some ⟨g, 0, none⟩)] := (Blk.new w1 66 #[.pointer (some ⟨g, 0, none⟩)]).old hb
  have hmb2 : mb < w2.heap.size := by obtain ⟨f, h1, _⟩ := hg2.mp; exact h1.lt
  have hbs : (w.alloc (.cells #[.int .i64 4] 3)).heap.size = w.heap.size + 1 := by simp
  rw [hbs] at hg2
  have hw12 : w.heap.size ≤ w2.heap.size := hbw2.size
  have HGD := Lib.hid hgd
  have hqs : qs.length ≤ 100000 := by have := hgd.len; omega
  have hdl : ∀ p ∈ qs, p.ds.length ≤ 1000 := fun p hp => Nat.le_trans (hgd.dlen (k := 600) hM hp) (by omega)
  generalize hbTe : (w1.alloc (.cells #[.pointer (some ⟨g, 0, none⟩)] 66)).heap.size = bT at *
  clear hbTe hbs
  refine wpIn_range_tells (F := Fence.wide) (n := 6) rfl (by omega) (gf := 54) (lb := #[.pointer (some ⟨b, 0, none⟩)]) rfl trivial (enters_of Try.func54 (by kernel_rfl) rfl)
    (Terms1_tells 5 (by omega) b bT A1 c1 qs w2 hqs hblk hgd.own hdl) KT.trans (fun W l o o' h1 h2 => KT.put o' h1 h2) (fun _ => rfl)
    (DInv 3 4 (w.heap.size + 1) g mb w.heap.size w1.heap.size bT (.slice A1 qs.length c1) qs w) (fun _ _ _ => False)
    (DInv.own hmb2 hw12) (fun _ _ _ _ _ hs _ _ => hs) ⟨_, [], hg2, GInv.nil, k3, k5, hgd.own, fun k _ => by simp [Value.ownBlock], hbw2⟩
    (fun pre x a' W => DRound qs pre x (fun Bm Bi => { tmps := #[.slice A ps.length c, .int .i64 4, undef, .pointer (some ⟨w.heap.size, 0, none⟩), .slice none 0 0, .pointer (some ⟨w1.heap.size, 0, none⟩), .pointer (some ⟨Bm, 0, none⟩), .pointer (some ⟨Bi, 0, none⟩), undef, .int .i64 4, .bool true, .bool false, .pointer (some ⟨g, 0, none⟩), .slice A ps.length c, .func (.func 54) #[] #[.pointer (some ⟨b, 0, none⟩)], .agg #[.int .i64 x.m.1, .int .i64 x.m.2.1, .int .i64 x.m.2.2.1, .int .i64 x.m.2.2.2], .agg #[.bool x.ng, .slice x.A x.ds.length x.c], undef, undef, undef, undef, undef, undef, undef, undef, undef, undef, undef, undef, undef, undef, undef, undef, undef, undef, undef, undef, undef], defers := [] }) w.heap.size a' W)
    (fun _ _ _ => DRound.own)
    ?assign ?body ?done ?stop
  case assign =>
    rintro l pre x W K' ⟨v, gs, i1, i2, i3, i4, i5, i6, i7⟩ ⟨t1, t2, t3, t4, t5⟩ hK'
    unfold yargs moV
    obtain ⟨b1, b2, b3, b4⟩ := boxes2 W 33 31 #[.int .i64 x.m.1, .int .i64 x.m.2.1, .int .i64 x.m.2.2.1, .int .i64 x.m.2.2.2] #[.bool x.ng, .slice x.A x.ds.length x.c]
    have hfin := hK' { tmps := #[.slice A ps.length c, .int .i64 4, undef, .pointer (some ⟨w.heap.size, 0, none⟩), .slice none 0 0, .pointer (some ⟨w1.heap.size, 0, none⟩), .pointer (some ⟨W.heap.size, 0, none⟩), .pointer (some ⟨W.heap.size + 1, 0, none⟩), undef, .int .i64 4, .bool true, .bool false, .pointer (some ⟨g, 0, none⟩), .slice A ps.length c, .func (.func 54) #[] #[.pointer (some ⟨b, 0, none⟩)], .agg #[.int .i64 x.m.1, .int .i64 x.m.2.1, .int .i64 x.m.2.2.1, .int .i64 x.m.2.2.2], .agg #[.bool x.ng, .slice x.A x.ds.length x.c], undef, undef, undef, undef, undef, undef, undef, undef, undef, undef, undef, undef, undef, undef, undef, undef, undef, undef, undef, undef, undef], defers := [] } _
      (((KeepsOthers.alloc W _).trans (KeepsOthers.alloc _ _)).from _) (KT.old b1) ⟨v, gs, i1.old b1, i2, i3.old b1, i4.old b1, i5.old b1, i6, i7.trans (b1.mono i7.size)⟩ ⟨W.heap.size, W.heap.size + 1, W.heap.size, i7.size, b2, b3, Nat.le_refl _, t1.below b1, t2, t3, t4, t5, rfl⟩
    have HFIN := Lib.hid hfin
    clear hfin hK' b1 b2 b3 b4
    gi_wp2
    exact HFIN.out
  case body =>
    rintro l pre x a' W hl ⟨v, gs, hG, hgi, k3, k5, hpo, hap, hbl⟩ ⟨Bm, Bi, Bd, hBm, km, ki, hBd, hnat, hcn, hdl1, htold, hlt, rfl⟩
    have hf : DFacts 3 K M E pre x := d_facts HGD.out hE hK hKM hN htold hlt
    obtain ⟨v0, v1, v2, v3⟩ := hf.vl
    obtain ⟨u0, u1, u2, u3⟩ := hf.ub
    unfold moV at km
    have e3 : W.cell? ⟨w.heap.size, 0, none⟩ = some (.int .i64 4) := k3.cell 0
    have ej : W.cell? ⟨Bm, 3, none⟩ = some (.int .i64 x.m.2.2.2) := km.cell 3
    have fj := km.frozen 3
    by_cases he : 0 < x.m.2.2.2
    · have hLP : dL 3 ((pre ++ [x]).map PT.tm) = dL 3 (pre.map PT.tm) ++ [(ival x.ng x.ds * x.m.2.2.2, (x.m.1, x.m.2.1, x.m.2.2.1, x.m.2.2.2 - 1))] := dL_pos (i := 3) (pre := pre) (x := x) he
      have hwm : WfM (x.m.1, x.m.2.1, x.m.2.2.1, x.m.2.2.2 - 1) := hf.wf he
      have hdz : (dig (ival x.ng x.ds * x.m.2.2.2).natAbs).length ≤ 1000 := hf.dz
      have HLN := Lib.hid hf.len; have HNM := Lib.hid hf.nm
      have hd2 := dig_len64 v3 u3
      have kmS : Blk (W.setCell ⟨Bm, 3, none⟩ (.int .i64 (x.m.2.2.2 - 1))) Bm 33 #[.int .i64 x.m.1, .int .i64 x.m.2.1, .int .i64 x.m.2.2.1, .int .i64 (x.m.2.2.2 - 1)] := km.set_ 3 (.int .i64 (x.m.2.2.2 - 1))
      have kiS := ki.far (p := ⟨Bm, 3, none⟩) (ki.ne_t km (by decide)) (.int .i64 (x.m.2.2.2 - 1))
      have k3S := k3.far (p := ⟨Bm, 3, none⟩) (k3.ne_t km (by decide)) (.int .i64 (x.m.2.2.2 - 1))
      have k5S := k5.far (p := ⟨Bm, 3, none⟩) (k5.ne_t km (by decide)) (.int .i64 (x.m.2.2.2 - 1))
      have hGS := hG.setFar km (by decide) (by decide) (by decide) 3 (.int .i64 (x.m.2.2.2 - 1))
      have hnS := hnat.below ((Below.refl Bd W).setCell (p := ⟨Bm, 3, none⟩) hBd (.int .i64 (x.m.2.2.2 - 1)))
      have hXe : ∃ X, W.setCell ⟨Bm, 3, none⟩ (.int .i64 (x.m.2.2.2 - 1)) = X := ⟨_, rfl⟩
      obtain ⟨X, hX⟩ := hXe
      rw [hX] at kmS kiS k3S k5S hGS hnS
      have hbX : w.heap.size + 1 ≤ X.heap.size := by rw [← hX]; have := km.lt; simp; omega
      have hBdX : Bd ≤ X.heap.size := Nat.le_trans hBd (Nat.le_of_lt kmS.lt)
      have HNX := Lib.hid (fun (w4 w5 : World) (v' : Value) (gs' : List PT) (hb4 : Below X.heap.size X w4) (hga : GAt w5 (w.heap.size + 1) g mb v' gs') (hgi' : GInv (dL 3 ((pre ++ [x]).map PT.tm)) (gs'.map PT.tm)) (ht : GTurn (w.heap.size + 1) w4 w5) (hff : FarT g v v' w4 w5) (ho : OthT mb w4 w5) =>
        d_next (Bs := b) (B := w2.heap.size) hX km hG k3S k5S hpo hap hbl hBm (Nat.le_succ _) hmb2 hb4 hga hgi' ht hff ho)
      have HIO := Lib.hid (fun (W3 : World) => IOf_any x.m.2.2.2 (by omega) u3 W3)
      have HIM := Lib.hid (fun (W3 : World) (A3 : Option Addr) (c3 : Nat) (hW : Below X.heap.size X W3) (h4 : NatB W3 A3 (dig (x.m.2.2.2).natAbs)) (h3 : (dig (x.m.2.2.2).natAbs).length ≤ c3) =>
        show Calls Try.prog 16 #[.agg #[.bool x.ng, .slice x.A x.ds.length x.c], .agg #[.bool (decide (x.m.2.2.2 < 0)), .slice A3 (dig (x.m.2.2.2).natAbs).length c3]] W3 (IntRes (ival x.ng x.ds * x.m.2.2.2) W3) by
          have h1 := IMul_any x.ng (decide (x.m.2.2.2 < 0)) x.A A3 x.c c3 W3.heap.size x.ds (dig (x.m.2.2.2).natAbs) W3 (Nat.le_refl _) ((hnS.below (hW.mono hBdX)).more (Nat.le_trans hBdX hW.size)) (natB_nin h4 h3) (by omega) (.inr (by omega))
          rw [ival_dig] at h1
          exact h1)
      have HGA := Lib.hid (fun (W4 : World) (A4 : Option Addr) (c4 : Nat) (hW : Below X.heap.size X W4) (h4 : NatB W4 A4 (dig (ival x.ng x.ds * x.m.2.2.2).natAbs)) (h3 : (dig (ival x.ng x.ds * x.m.2.2.2).natAbs).length ≤ c4) =>
        show Calls Try.prog 48 #[.pointer (some ⟨g, 0, none⟩), .agg (moV (x.m.1, x.m.2.1, x.m.2.2.1, x.m.2.2.2 - 1)), .agg #[.bool (decide (ival x.ng x.ds * x.m.2.2.2 < 0)), .slice A4 (dig (ival x.ng x.ds * x.m.2.2.2).natAbs).length c4]] W4 (AddRes (w.heap.size + 1) g mb v (dL 3 ((pre ++ [x]).map PT.tm)) W4) by
          have h1 := gadd_any (w.heap.size + 1) g mb v _ gs (x.m.1, x.m.2.1, x.m.2.2.1, x.m.2.2.2 - 1) (decide (ival x.ng x.ds * x.m.2.2.2 < 0)) A4 c4 (dig (ival x.ng x.ds * x.m.2.2.2).natAbs) W4 (hGS.old hW) hgi (Nat.le_trans hbX hW.size) hwm (natB_nin h4 h3) hdz HLN.out HNM.out
          rw [ival_dig, ← hLP] at h1
          exact h1)
      have c0 : X.cell? ⟨Bm, 0, none⟩ = some (.int .i64 x.m.1) := kmS.cell 0
      have c1' : X.cell? ⟨Bm, 1, none⟩ = some (.int .i64 x.m.2.1) := kmS.cell 1
      have c2 : X.cell? ⟨Bm, 2, none⟩ = some (.int .i64 x.m.2.2.1) := kmS.cell 2
      have c3 : X.cell? ⟨Bm, 3, none⟩ = some (.int .i64 (x.m.2.2.2 - 1)) := kmS.cell 3
      have c4 : X.cell? ⟨Bi, 0, none⟩ = some (.bool x.ng) := kiS.cell 0
      have c5 : X.cell? ⟨Bi, 1, none⟩ = some (.slice x.A x.ds.length x.c) := kiS.cell 1
      have c6 : X.cell? ⟨w1.heap.size, 0, none⟩ = some (.pointer (some ⟨g, 0, none⟩)) := k5S.cell 0
      have lm := kmS.lt; have li := kiS.lt; have l5 := k5S.lt
      have hmix : Try.prog.follows .mixedOrders = true := by kernel_rfl
      have hbd : Below X.heap.size X X.drew := (Drawn.drew _).below _
      unfold IntRes at HIO HIM
      unfold AddRes moV at HGA
      clear hLP hwm hdz hGS hnS hG hgi hpo hap hnat kmS kiS k3S k5S k3 k5 ki
      have HKM := Lib.hid km
      clear km
      generalize ival x.ng x.ds * x.m.2.2.2 = zz at *
      gi_wp2
      gi_region_with_o (first
        | (refine ⟨trivial, ?_⟩; gi_at_call 34; refine (callsIn_wide.2 (HIO.out _)).mono ?_; rintro e w3 ⟨A3, c3', rfl, h3, h4, h5⟩; have hb3 := hbd.trans (h5.mono hbd.size); have z0 := (h5.cell lm).trans c0; have z1 := (h5.cell lm).trans c1'; have z2 := (h5.cell lm).trans c2; have z3 := (h5.cell lm).trans c3; have z4 := (h5.cell li).trans c4; have z5 := (h5.cell li).trans c5; have z6 := (h5.cell l5).trans c6; have lm3 := Nat.lt_of_lt_of_le lm hb3.size; have li3 := Nat.lt_of_lt_of_le li hb3.size; have l53 := Nat.lt_of_lt_of_le l5 hb3.size)
        | (refine ⟨trivial, ?_⟩; gi_at_call 16; refine (callsIn_wide.2 (HIM.out w3 A3 c3' hb3 h4 h3)).mono ?_; rintro e w4 ⟨A4, c4', rfl, h6, h7, h8⟩; have hb4 := hb3.trans (h8.mono hb3.size); have y0 := (h8.cell lm3).trans z0; have y1 := (h8.cell lm3).trans z1; have y2 := (h8.cell lm3).trans z2; have y3 := (h8.cell lm3).trans z3; have y4 := (h8.cell li3).trans z4; have y5 := (h8.cell li3).trans z5; have y6 := (h8.cell l53).trans z6)
        | (refine ⟨trivial, ?_⟩; gi_at_call 48; refine (callsIn_wide.2 (HGA.out w4 A4 c4' hb4 h7 h6)).mono ?_; rintro e w5 ⟨rfl, v', gs', hga', hgi', ht', hf', ho'⟩))
      all_goals
        have hfin := HNX.out w4 w5 v' gs' hb4 hga' hgi' ht' hf' ho'
        have HFIN := Lib.hid hfin
        clear hfin hga' hgi' ht' hf' ho' c0 c1' c2 c3 c4 c5 c6
        gi_wp2
        exact Behind.ok HFIN.out
    · have hLN : dL 3 ((pre ++ [x]).map PT.tm) = dL 3 (pre.map PT.tm) := dL_neg (i := 3) (pre := pre) (x := x) he
      rw [← hLN] at hgi
      have HFIN := Lib.hid (show KeepsFrom w2.heap.size W W ∧ KT b bT (.slice A1 qs.length c1) qs W W ∧ DInv 3 4 (w.heap.size + 1) g mb w.heap.size w1.heap.size bT (.slice A1 qs.length c1) qs w (pre ++ [x]) W from ⟨KeepsFrom.refl _ _, KT.old (Below.refl _ _), v, gs, hG, hgi, k3, k5, hpo, hap, hbl⟩)
      have he' : x.m.2.2.2 ≤ 0 := by omega
      clear hLN hgi hG hpo hap hf hnat
      gi_wp2
      exact Behind.ok HFIN.out
  case done =>
    rintro D ys W hD hS ⟨v, gs, hG, hgi, k3, k5, hpo, hap, hbl⟩ hK0
    have c6 : W.cell? ⟨w1.heap.size, 0, none⟩ = some (.pointer (some ⟨g, 0, none⟩)) := k5.cell 0
    rw [hS] at hgi
    obtain ⟨n1, n2⟩ := d_nrm (i := 3) HGD.out hK (l := qs.map PT.tm) (k := qs.length) (by rw [List.take_length])
    have hgl : gs.length ≤ 100000 := by have h1 := hgi.len; rw [List.length_map] at h1; omega
    have hme : ∀ t ∈ dL 3 (qs.map PT.tm), vld t.2 = true → MB E t.2 := fun t ht _ => by
      obtain ⟨s, hs, _, rfl⟩ := mem_dL ht
      obtain ⟨p, hp, rfl⟩ := List.mem_map.1 hs
      exact (HGD.out.mb p hp).dec 3
    have HP := Lib.hid (fun (e : Ending) (w' : World) (hr : PolyRes (cf (dL 3 (qs.map PT.tm))) (dL 3 (qs.map PT.tm)).length W e w') => hr.good hme n1)
    have HPC := Lib.hid (poly_any (w.heap.size + 1) g mb v (dL 3 (qs.map PT.tm)) gs W hG hgi hgl (Nat.lt_of_le_of_lt n1 hKM))
    have HLN := Lib.hid n2
    clear n1 n2 hgi hG hpo hap k3 k5 hme hS
    gi_wp2_with (first | (refine ⟨trivial, ?_⟩; gi_at_call 49; refine (callsIn_wide.2 HPC.out).mono ?_; rintro e w4 hr; obtain ⟨A5, c5, rs, rfl, hgd5, hb5⟩ := HP.out _ _ hr))
    have hK4 : w4.heap[D]? = some (.deferred (some [])) := (hb5.block D (Array.getElem?_eq_some_iff.1 hK0).1).trans hK0
    refine ⟨by simp, .inl ⟨_, _, rfl, run_takeDeferred hK4, ?_⟩⟩
    have hbf : Below w.heap.size w w4 := hbl.trans (hb5.mono hbl.size)
    refine ⟨_, results_tmp rfl _ _ _, A5, c5, rs, rfl, { hgd5 with own := ((KT.put (Bs := 0) (base := W.heap.size) (v := .slice A5 rs.length c5) (ps := rs) (.deferred none) hK4 rfl).1 hgd5.own).mono hbl.size, len := Nat.le_trans hgd5.len HLN.out, cf := fun m => ?_ }, ?_⟩
    · rw [hgd5.cf m, cf_dL]
      exact dC_ext HGD.out.cf 3 m
    · exact hbf.trans (belowK_b (w := w) (Nat.le_refl _) w4 D _ _ (by omega) hK4 rfl rfl)
  case stop =>
    rintro D cc pre W _ _ h _
    exact h.elim

/-- the derivative's coefficients -/
def dF (L : Int) (l : List Tm) (m : Mo) : Int := if 1 ≤ L ∧ L ≤ 4 then dC (L - 1).toNat l m else 0
set_option maxRecDepth 100000 in
set_option maxHeartbeats 1000000 in
theorem Deriv_out (A : Option Addr) (n c : Nat) (L : Int) (w : World) (h : ¬ (1 ≤ L ∧ L ≤ 4)) (F : Mo → Int) (hF : ∀ m, F m = 0) (N : Nat) (E : Int) (M : Nat) :
    Calls Try.prog 32 #[.slice A n c, .int .i64 L] w (PRes F N E M w) := by
  have hl : (decide (1 ≤ L) && decide (L ≤ 4)) = false := by
    by_cases h1 : 1 ≤ L
    · rw [decide_eq_false (show ¬ L ≤ 4 by omega), Bool.and_false]
    · rw [decide_eq_false h1]; rfl
  have hc := fun W => lvl_any L W
  rw [hl] at hc
  have HL := Lib.hid hc
  clear hc hl h
  have HB := Lib.hid ((Below.refl _ w).alloc (Nat.le_refl _) (.cells #[.int .i64 L] 3))
  refine (callsIn_wide (n := 6)).1 ?_
  refine callsIn_of_wp_marks Try.func32 rfl trivial ?_ rfl
  simp only [Try.ntmps32, List.size_toArray, List.length_cons, List.length_nil, Nat.reduceAdd, Nat.reduceSub, Array.replicate_succ, Array.replicate_zero, List.push_toArray, List.append_toArray, List.nil_append, List.cons_append]
  gi_wp2_with (first | (refine ⟨trivial, ?_⟩; gi_at_call 53; refine (callsIn_wide.2 (HL.out _)).mono ?_; rintro e w0 ⟨rfl, rfl⟩))
  exact ⟨_, results_tmp rfl _ _ _, none, 0, [], rfl, PGood.none _ _ _ hF _ _ _, HB.out⟩
/-- sparse.Derivative -/
theorem Deriv_any (A : Option Addr) (c B N K : Nat) (E : Int) (M : Nat) (L : Int) (ps : List PT) (w : World) (hB : B ≤ w.heap.size) (h : PIn w B A ps N E M) (hN : N ≤ 50000) (hM : M < Big) (hE : E ≤ 9223372036854775807) (hK : E ≤ (K : Int)) (hKM : K * M < Big) :
    Calls Try.prog 32 #[.slice A ps.length c, .int .i64 L] w (PRes (dF L (ps.map PT.tm)) N E (K * M) w) := by
  by_cases hL : 1 ≤ L ∧ L ≤ 4
  · rcases (by omega : L = 1 ∨ L = 2 ∨ L = 3 ∨ L = 4) with rfl | rfl | rfl | rfl
    · exact Deriv_1 A c B N K E M ps w hB h hN hM hE hK hKM
    · exact Deriv_2 A c B N K E M ps w hB h hN hM hE hK hKM
    · exact Deriv_3 A c B N K E M ps w hB h hN hM hE hK hKM
    · exact Deriv_4 A c B N K E M ps w hB h hN hM hE hK hKM
  · exact Deriv_out A _ c L w hL _ (fun m => by unfold dF; rw [if_neg hL]) N E (K * M)
end Go.Proofs.Ytpbapoanjkekmaa
