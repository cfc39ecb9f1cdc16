/- The walk of SparseDerivative. -/
import Derived.Test.YtpbapoanjkekmaaD5
import Derived.Test.YtpbapoanjkekmaaL4
namespace Go.Proofs.Ytpbapoanjkekmaa
open Go.RowKit
attribute [local go_sem ↓] Go.wp_at_zero Go.wp_at_succ

/-! ### plain facts -/
theorem dF_add {p q s : List Tm} (h : ∀ m, cf s m = cf p m + cf q m) (L : Int) (m : Mo) : dF L s m = dF L p m + dF L q m := by
  unfold dF
  split
  · exact dC_add h _ m
  · rfl
theorem dF_ext {p q : List Tm} (h : ∀ m, cf p m = cf q m) (L : Int) (m : Mo) : dF L p m = dF L q m := by
  unfold dF
  split
  · exact dC_ext h _ m
  · rfl
theorem mulC_nil_l (q : List Tm) (m : Mo) : mulC [] q m = 0 := rfl
theorem dF_mul {p q r a b : List Tm} {L : Int} (hr : ∀ m, cf r m = mulC p q m) (ha : ∀ m, cf a m = dF L p m) (hb : ∀ m, cf b m = dF L q m) (m : Mo) : dF L r m = mulC a q m + mulC p b m := by
  by_cases hL : 1 ≤ L ∧ L ≤ 4
  · have e : ∀ l m, dF L l m = dC (L - 1).toNat l m := fun l m => by unfold dF; rw [if_pos hL]
    rw [e]
    exact dC_mul _ hr (fun m => (ha m).trans (e p m)) (fun m => (hb m).trans (e q m)) m
  · have e : ∀ l m, dF L l m = 0 := fun l m => by unfold dF; rw [if_neg hL]
    have ha' : ∀ m, cf a m = cf [] m := fun m => by rw [ha, e, cf_nil]
    have hb' : ∀ m, cf b m = cf [] m := fun m => by rw [hb, e, cf_nil]
    rw [e, mulC_ext ha' (fun _ => rfl), mulC_ext (fun _ => rfl) hb', mulC_comm p [], mulC_nil_l, mulC_nil_l]
    rfl
theorem dF_dL (L : Int) (l : List Tm) (m : Mo) : dF L l m = if 1 ≤ L ∧ L ≤ 4 then cf (dL (L - 1).toNat l) m else 0 := by
  unfold dF
  rw [cf_dL]
/-- the derivative of a variable -/
theorem dF_var_same {z : Int} (h1 : 1 ≤ z) (h4 : z ≤ 4) (m : Mo) : dF z [(1, xM z)] m = cf [(1, (0, 0, 0, 0))] m := by
  rw [dF_dL, if_pos ⟨h1, h4⟩]
  rcases (by omega : z = 1 ∨ z = 2 ∨ z = 3 ∨ z = 4) with rfl | rfl | rfl | rfl <;> rfl
theorem dF_var_other {z L : Int} (h1 : 1 ≤ z) (h4 : z ≤ 4) (hne : z ≠ L) (m : Mo) : dF L [(1, xM z)] m = 0 := by
  rw [dF_dL]
  split
  · rename_i h
    rcases (by omega : z = 1 ∨ z = 2 ∨ z = 3 ∨ z = 4) with rfl | rfl | rfl | rfl <;> rcases (by omega : L = 1 ∨ L = 2 ∨ L = 3 ∨ L = 4) with rfl | rfl | rfl | rfl <;> first | exact absurd rfl hne | rfl
  · rfl
theorem dF_const (L a : Int) (m : Mo) : dF L [(a, (0, 0, 0, 0))] m = 0 := by
  rw [dF_dL]
  split
  · rename_i h
    rcases (by omega : L = 1 ∨ L = 2 ∨ L = 3 ∨ L = 4) with rfl | rfl | rfl | rfl <;> rfl
  · rfl
theorem PGood.bound {w : World} {base N N' M M' : Nat} {E E' : Int} {v : Value} {ps : List PT} {F : Mo → Int} (h : PGood w base v ps F N E M) (hN : N ≤ N') (hE : E ≤ E') (hM : M ≤ M') : PGood w base v ps F N' E' M' :=
  { h with len := Nat.le_trans h.len hN, mb := fun p hp => (h.mb p hp).mono hE, nm := Nat.le_trans h.nm hM }
theorem PGood.empty {w : World} {base N M : Nat} {E : Int} {v : Value} {ps : List PT} {F : Mo → Int} (h : PGood w base v ps F N E M) (hF : ∀ m, F m = 0) : ps = [] := by
  have := h.can.unique Canon.nil (fun m => by rw [h.cf, hF, cf_nil])
  exact List.map_eq_nil_iff.1 this
theorem pw_k {k : Nat} (h : k ≤ 4294967296) (n : Nat) : k * pw n ≤ pw (n + 1) := by
  unfold pw
  rw [Nat.pow_succ, Nat.mul_comm]
  exact Nat.mul_le_mul_left _ h
theorem one_big : 1 < Big := by
  have h := pw_lt (a := 0) (b := 600) (by decide)
  exact h

/-! ### small callees -/
theorem inner_any (l : Int) (w : World) : Calls Try.prog 20 #[.int .i64 l] w fun e w' => e = .returned (.bool (decide (1 ≤ l) && decide (l ≤ 4))) ∧ w = w' := by
  by_cases h1 : 1 ≤ l
  · by_cases h2 : l ≤ 4
    · go_enter Try.func20, Try.ntmps20
      go_wp2
      go_ret
      exact ⟨by simp [h1, h2], rfl⟩
    · go_enter Try.func20, Try.ntmps20
      go_wp2
      go_ret
      exact ⟨by rw [decide_eq_false (show ¬ l ≤ 4 by omega)]; rfl, rfl⟩
  · go_enter Try.func20, Try.ntmps20
    go_wp2
    go_ret
    exact ⟨by rw [decide_eq_false (show ¬ (1 : Int) ≤ l by omega)]; rfl, rfl⟩
/-- a small constant -/
def SmallRes (x : Int) (w : World) (e : Ending) (w' : World) : Prop := ∃ n1 A c d1, e = .returned (.agg #[.bool n1, .slice A (List.length d1) c]) ∧ NatIn w' w'.heap.size A c d1 ∧ ival n1 d1 = x ∧ d1.length ≤ 1000000 ∧ Below w.heap.size w w'
theorem IOf_small (x : Int) (h0 : -1000000 ≤ x) (h1 : x ≤ 1000000) (w : World) : Calls Try.prog 34 #[.int .i64 x] w (SmallRes x w) := by
  refine (IOf_any x (by omega) (by omega) w).mono ?_
  rintro e w' ⟨A, c, rfl, h3, h4, h5⟩
  have hl : (dig x.natAbs).length ≤ 600 := dig_len_big (Nat.lt_trans (show x.natAbs < pw 1 by have : pw 1 = 4294967296 := rfl; omega) (pw_lt (show 1 < 600 by decide)))
  exact ⟨_, A, c, _, rfl, natB_nin h4 h3, ival_dig x, by omega, h5⟩
theorem Var_any (z : Int) (h1 : 1 ≤ z) (h4 : z ≤ 4) (w : World) : Calls Try.prog 25 #[.int .i64 z] w (PRes (cf [(1, xM z)]) 1 1 1 w) := by
  rcases (by omega : z = 1 ∨ z = 2 ∨ z = 3 ∨ z = 4) with rfl | rfl | rfl | rfl
  · exact Var_1 w
  · exact Var_2 w
  · exact Var_3 w
  · exact Var_4 w

set_option maxHeartbeats 4000000 in
set_option maxRecDepth 100000 in
theorem Deriv_law (A0 A1 : Option Addr) (c0 c1 : Nat) (ps qs : List PT) (L : Int) (w : World) (h0 : PolyIn w w.heap.size A0 ps) (h1 : PolyIn w w.heap.size A1 qs)
    (v0 : ∀ p ∈ ps, WfM p.m) (v1 : ∀ p ∈ qs, WfM p.m) :
    Calls Try.prog 6 #[.slice A0 ps.length c0, .slice A1 qs.length c1, .int .i64 L] w (TrueRes w) := by
  have HFT := Lib.hid (fit_any w)
  have H0 := Lib.hid h0; have H1 := Lib.hid h1
  have V0 := Lib.hid v0; have V1 := Lib.hid v1
  clear h0 h1 v0 v1
  go_enter Try.func6, Try.ntmps6
  go_wp2_with fail
  refine HFT.out.mono ?_
  rintro e w1 ⟨rfl, hb1⟩
  have HF0 := Lib.hid (few_any A0 c0 w.heap.size ps w1 (H0.out.below hb1))
  have HF1 := Lib.hid (few_any A1 c1 w.heap.size qs w1 (H1.out.below hb1))
  clear HFT
  go_wp2_with fail
  refine HF0.out.mono ?_
  rintro e w1' ⟨b0, rfl, hf0, rfl⟩
  cases b0 with
  | false =>
    clear hf0
    go_wp2_with fail
    go_ret
    exact ⟨rfl, hb1⟩
  | true =>
    have F0 := Lib.hid (hf0 rfl)
    clear hf0
    go_wp2_with fail
    refine HF1.out.mono ?_
    rintro e w1' ⟨b1, rfl, hf1, rfl⟩
    cases b1 with
    | false =>
      clear hf1
      go_wp2_with fail
      go_ret
      exact ⟨rfl, hb1⟩
    | true =>
      have I0 := Lib.hid (show PIn w1 w.heap.size A0 ps 8 9 (pw 7) from (few_pin H0.out V0.out F0.out (by omega) (by omega)).below hb1)
      have I1 := Lib.hid (show PIn w1 w.heap.size A1 qs 8 9 (pw 7) from (few_pin H1.out V1.out (hf1 rfl) (by omega) (by omega)).below hb1)
      clear hf1 HF0 HF1 H0 H1 F0 V0 V1
      have hB := hb1.size
      have g7 : pw 7 < Big := pw_lt (by decide)
      have g8 : pw 8 < Big := pw_lt (by decide)
      have g9 : pw 9 < Big := pw_lt (by decide)
      have g14 : pw 14 < Big := pw_lt (by decide)
      have g15 : pw 15 < Big := pw_lt (by decide)
      have g16 : pw 16 < Big := pw_lt (by decide)
      have m7 : pw 7 < pw 47 := pw_lt (by decide)
      have m8 : pw 8 < pw 47 := pw_lt (by decide)
      have n7 : pw 7 < pw 500 := pw_lt (by decide)
      have n8 : pw 8 < pw 500 := pw_lt (by decide)
      have p77 : pw 7 * pw 7 = pw 14 := pw_mul 7 7
      have p87 : pw 8 * pw 7 = pw 15 := pw_mul 8 7
      have p78 : pw 7 * pw 8 = pw 15 := pw_mul 7 8
      have t7 : 9 * pw 7 ≤ pw 8 := pw_k (by omega) 7
      have t8 : 9 * pw 8 ≤ pw 9 := pw_k (by omega) 8
      have t14 : 18 * pw 14 ≤ pw 15 := pw_k (by omega) 14
      have d7 : pw 7 + pw 7 ≤ pw 8 := pw_dbl 7
      have d8 : pw 8 + pw 8 ≤ pw 9 := pw_dbl 8
      have d15 : pw 15 + pw 15 ≤ pw 16 := pw_dbl 15
      have HD0 := Lib.hid (Deriv_any A0 c0 w.heap.size 8 9 9 (pw 7) L ps w1 hB I0.out (by omega) g7 (by omega) (by omega) (Nat.lt_of_le_of_lt t7 g8))
      have HD1 := Lib.hid (fun (W : World) (hW : Below w1.heap.size w1 W) => Deriv_any A1 c1 w.heap.size 8 9 9 (pw 7) L qs W (Nat.le_trans hB hW.size) (I1.out.below (hW.mono hB)) (by omega) g7 (by omega) (by omega) (Nat.lt_of_le_of_lt t7 g8))
      generalize hps : ps.map PT.tm = P at *
      generalize hqs : qs.map PT.tm = Q at *
      have HPS := Lib.hid hps; have HQS := Lib.hid hqs
      clear hps hqs
      go_wp2_with fail
      refine HD0.out.mono ?_
      rintro e w2 ⟨Aa, ca, aL, rfl, hga, hb2⟩
      have HGA := Lib.hid hga
      clear hga HD0
      go_wp2_with fail
      refine (HD1.out _ hb2).mono ?_
      rintro e w3 ⟨Ab, cb, bs, rfl, hgb, hb3⟩
      have k3 : Below w1.heap.size w1 w3 := hb2.trans (hb3.mono hb2.size)
      have GA := Lib.hid ((HGA.out.bound (Nat.le_refl _) (Int.le_refl _) t7).old hb3)
      have GB := Lib.hid (hgb.bound (Nat.le_refl _) (Int.le_refl _) t7)
      have ia := GA.out.pin (by omega) g8
      have IA := Lib.hid ia
      have IB := Lib.hid (GB.out.pin (by omega) g8)
      have HCA := Lib.hid (Can_any Aa ca w3.heap.size aL w3 (Nat.le_refl _) ia.pin GA.out.can GA.out.own.cn (by have := ia.len; omega) ia.dl)
      have CA := Lib.hid GA.out.cf; have CB := Lib.hid GB.out.cf
      clear hgb HGA HD1 ia hb2 hb3 GB
      go_wp2_with fail
      refine HCA.out.mono ?_
      rintro e w4 ⟨rfl, hb4⟩
      have k4 := k3.trans (hb4.mono k3.size)
      clear HCA
      by_cases hL : 1 ≤ L ∧ L ≤ 4
      · have hin := inner_any L w4
        rw [show (decide (1 ≤ L) && decide (L ≤ 4)) = true by simp [hL.1, hL.2]] at hin
        have HIN := Lib.hid hin
        clear hin hL GA
        go_wp2_with fail
        refine HIN.out.mono ?_
        rintro e w4' ⟨rfl, rfl⟩
        clear HIN
        have HS1 := Lib.hid (SAdd_any A0 A1 c0 c1 w.heap.size 8 8 9 (pw 7) (pw 7) ps qs w4 (Nat.le_trans hB k4.size) (I0.out.below (k4.mono hB)) (I1.out.below (k4.mono hB)) (by omega) (Nat.lt_of_le_of_lt d7 g8))
        go_wp2_with fail
        refine HS1.out.mono ?_
        rintro e w5 ⟨As, cs, ss, rfl, hgs, hb5⟩
        have k5 := k4.trans (hb5.mono k4.size)
        have b5 := hb4.trans (hb5.mono hb4.size)
        have gs := hgs.bound (Nat.le_refl _) (Int.le_refl _) d7
        have HDS := Lib.hid (Deriv_any As cs w5.heap.size (8 + 8) 9 9 (pw 8) L ss w5 (Nat.le_refl _) (gs.pin (by omega) g8) (by omega) g8 (by omega) (by omega) (Nat.lt_of_le_of_lt t8 g9))
        have CS := Lib.hid hgs.cf
        clear hgs gs HS1
        go_wp2_with fail
        refine HDS.out.mono ?_
        rintro e w6 ⟨Ad, cd, ds, rfl, hgd, hb6⟩
        have k6 := k5.trans (hb6.mono k5.size)
        have b6 := b5.trans (hb6.mono b5.size)
        have GD := Lib.hid (hgd.bound (Nat.le_refl _) (Int.le_refl _) t8)
        have HS2 := Lib.hid (SAdd_any Aa Ab ca cb w6.heap.size 8 8 9 (pw 8) (pw 8) aL bs w6 (Nat.le_refl _) (IA.out.old b6) (IB.out.old b6) (by omega) (Nat.lt_of_le_of_lt d8 g9))
        clear hgd HDS
        go_wp2_with fail
        refine HS2.out.mono ?_
        rintro e w7 ⟨Ae, ce, es, rfl, hge, hb7⟩
        have k7 := k6.trans (hb7.mono k6.size)
        have b7 := b6.trans (hb7.mono b6.size)
        have ge := hge.bound (Nat.le_refl _) (Int.le_refl _) d8
        have HSS := Lib.hid (SSame_any Ad Ae cd ce w7.heap.size (8 + 8) (8 + 8) 9 9 (pw 9) (pw 9) ds es w7 (Nat.le_refl _) ((GD.out.old hb7).pin (by omega) g9) (ge.pin (by omega) g9) (by omega) (by omega) g9 g9 (by omega) (by omega))
        have HSE := Lib.hid (fun m => show cf (ds.map PT.tm) m = cf (es.map PT.tm) m by
          rw [GD.out.cf, hge.cf, CA.out, CB.out]
          exact dF_add (fun m => by rw [CS.out, HPS.out, HQS.out]) L m)
        clear hge ge HS2 GD
        go_wp2_with fail
        refine HSS.out.mono ?_
        rintro e w8 hsr
        obtain ⟨rfl, hb8⟩ := hsr.yes HSE.out
        have k8 := k7.trans (hb8.mono k7.size)
        have b8 := b7.trans (hb8.mono b7.size)
        clear hsr HSS HSE CS hb5 hb6 hb7 hb8 b5 b6 b7 k5 k6 k7
        have HM1 := Lib.hid (SMul_any A0 A1 c0 c1 w.heap.size 8 8 9 9 (pw 7) (pw 7) ps qs w8 (Nat.le_trans hB k8.size) (I0.out.below (k8.mono hB)) (I1.out.below (k8.mono hB)) (by omega) (by omega) (by omega) (by omega) (by omega) m7 n7 (by rw [p77]; exact g14))
        go_wp2_with fail
        refine HM1.out.mono ?_
        rintro e w9 ⟨Am, cm, ms, rfl, hgm, hb9⟩
        have k9 := k8.trans (hb9.mono k8.size)
        have b9 := b8.trans (hb9.mono b8.size)
        have gm := hgm.bound (Nat.le_refl _) (Int.le_refl _) (Nat.le_of_eq p77)
        have HDM := Lib.hid (Deriv_any Am cm w9.heap.size (8 * 8) 18 (9 + 9) (pw 14) L ms w9 (Nat.le_refl _) (gm.pin (by omega) g14) (by omega) g14 (by omega) (by omega) (Nat.lt_of_le_of_lt t14 g15))
        have CM := Lib.hid hgm.cf
        clear hgm gm HM1
        go_wp2_with fail
        refine HDM.out.mono ?_
        rintro e w10 ⟨An, cn, ns, rfl, hgn, hb10⟩
        have k10 := k9.trans (hb10.mono k9.size)
        have b10 := b9.trans (hb10.mono b9.size)
        have GN := Lib.hid (hgn.bound (Nat.le_refl _) (Int.le_refl _) t14)
        have HM2 := Lib.hid (SMul_any Aa A1 ca c1 w10.heap.size 8 8 9 9 (pw 8) (pw 7) aL qs w10 (Nat.le_refl _) (IA.out.old b10) ((I1.out.below (k10.mono hB)).more (Nat.le_trans hB k10.size)) (by omega) (by omega) (by omega) (by omega) (by omega) m8 n7 (by rw [p87]; exact g15))
        clear hgn HDM
        go_wp2_with fail
        refine HM2.out.mono ?_
        rintro e w11 ⟨Ax, cx, xs, rfl, hgx, hb11⟩
        have k11 := k10.trans (hb11.mono k10.size)
        have b11 := b10.trans (hb11.mono b10.size)
        have GX := Lib.hid (hgx.bound (Nat.le_refl _) (Int.le_refl _) (Nat.le_of_eq p87))
        have GN11 := Lib.hid (GN.out.old hb11)
        have HM3 := Lib.hid (SMul_any A0 Ab c0 cb w11.heap.size 8 8 9 9 (pw 7) (pw 8) ps bs w11 (Nat.le_refl _) ((I0.out.below (k11.mono hB)).more (Nat.le_trans hB k11.size)) (IB.out.old b11) (by omega) (by omega) (by omega) (by omega) (by omega) m7 n8 (by rw [p78]; exact g15))
        clear hgx HM2 GN
        go_wp2_with fail
        refine HM3.out.mono ?_
        rintro e w12 ⟨Ay, cy, ys, rfl, hgy, hb12⟩
        have k12 := k11.trans (hb12.mono k11.size)
        have gy := hgy.bound (Nat.le_refl _) (Int.le_refl _) (Nat.le_of_eq p78)
        have GN12 := Lib.hid (GN11.out.old hb12)
        have HS3 := Lib.hid (SAdd_any Ax Ay cx cy w12.heap.size (8 * 8) (8 * 8) (9 + 9) (pw 15) (pw 15) xs ys w12 (Nat.le_refl _) ((GX.out.old hb12).pin (by omega) g15) (gy.pin (by omega) g15) (by omega) (Nat.lt_of_le_of_lt d15 g16))
        have CX := Lib.hid GX.out.cf; have CY := Lib.hid hgy.cf
        clear hgy gy HM3 GX GN11
        go_wp2_with fail
        refine HS3.out.mono ?_
        rintro e w13 ⟨Az, cz, zs, rfl, hgz, hb13⟩
        have k13 := k12.trans (hb13.mono k12.size)
        have gz := hgz.bound (Nat.le_refl _) (Int.le_refl _) d15
        have HSS := Lib.hid (SSame_any An Az cn cz w13.heap.size (8 * 8) (8 * 8 + 8 * 8) (9 + 9) (9 + 9) (pw 15) (pw 16) ns zs w13 (Nat.le_refl _) ((GN12.out.old hb13).pin (by omega) g15) (gz.pin (by omega) g16) (by omega) (by omega) g15 g16 (by omega) (by omega))
        have HSE := Lib.hid (fun m => show cf (ns.map PT.tm) m = cf (zs.map PT.tm) m by
          rw [GN12.out.cf, hgz.cf, CX.out, CY.out]
          rw [HPS.out, HQS.out]
          exact dF_mul (fun m => by rw [CM.out, HPS.out, HQS.out]) CA.out CB.out m)
        clear hgz gz HS3 GN12
        go_wp2_with fail
        refine HSS.out.mono ?_
        rintro e w14 hsr
        obtain ⟨rfl, hb14⟩ := hsr.yes HSE.out
        have k14 := k13.trans (hb14.mono k13.size)
        have kw : Below w.heap.size w w14 := hb1.trans (k14.mono hB)
        clear hsr HSS HSE CM CX CY hb9 hb10 hb11 hb12 hb13 hb14 b8 b9 b10 b11 k8 k9 k10 k11 k12 k13 k14 I0 I1 IA IB CA CB HPS HQS g7 g8 g9 g14 g15 g16 m7 m8 n7 n8 p77 p87 p78 t7 t8 t14 d7 d8 d15
        go_wp2_with fail
        go_loopg [9, 10] 4 (fun gn ix _ wr => ∃ z : Int, 1 ≤ z ∧ z ≤ 5 ∧ gn = (5 - z).toNat ∧ ix = .int .i64 z ∧ Below w.heap.size w wr)
        case atStart => exact ⟨1, by omega, by omega, rfl, rfl, kw⟩
        case round =>
          obtain ⟨z, hz1, hz5, hgz, rfl, hbl⟩ := hrel
          have HG := Lib.hid hgz; clear hgz
          by_cases hz4 : z ≤ 4
          · have HV := Lib.hid (Var_any z hz1 hz4 wr)
            have HO := Lib.hid (fun W => IOf_small 1 (by omega) (by omega) W)
            go_wp2_with fail
            refine HV.out.mono ?_
            rintro e u1 ⟨Av, cv, vs, rfl, hgv, hc1⟩
            have HDV := Lib.hid (Deriv_any Av cv u1.heap.size 1 1 1 1 L vs u1 (Nat.le_refl _) (hgv.pin (by omega) one_big) (by omega) one_big (by omega) (by omega) one_big)
            have CV := Lib.hid hgv.cf
            clear hgv HV
            go_wp2_with fail
            refine HDV.out.mono ?_
            rintro e u2 ⟨Aw, cw, ws, rfl, hgw, hc2⟩
            have GW := Lib.hid (show PGood u2 u1.heap.size (.slice Aw ws.length cw) ws (dF L (vs.map PT.tm)) 1 1 1 from hgw)
            clear hgw HDV
            go_wp2_with fail
            refine (HO.out _).mono ?_
            rintro e u3 ⟨n1, A3, c3, d1, rfl, hn3, hv3, hl3, hc3⟩
            have hcon := Const_any n1 A3 c3 u3.heap.size d1 u3 (Nat.le_refl _) hn3 hl3
            rw [hv3] at hcon
            have HCON := Lib.hid hcon
            clear hcon hv3 hn3 hl3 HO
            go_wp2_with fail
            refine HCON.out.mono ?_
            rintro e u4 ⟨Ak, ck, ks, rfl, hgk, hc4⟩
            have HSS := Lib.hid (SSame_any Aw Ak cw ck u4.heap.size 1 1 1 0 1 1 ws ks u4 (Nat.le_refl _) (((GW.out.old hc3).old hc4).pin (by omega) one_big) ((hgk.bound (Nat.le_refl _) (Int.le_refl _) (Nat.le_refl 1)).pin (by omega) one_big) (by omega) (by omega) one_big one_big (by omega) (by omega))
            have CK := Lib.hid hgk.cf
            clear hgk HCON
            go_wp2_with fail
            refine HSS.out.mono ?_
            rintro e u5 hsr
            have hbu : Below w.heap.size w u4 := (((hbl.trans (hc1.mono hbl.size)).trans (hc2.mono (Nat.le_trans hbl.size hc1.size))).trans (hc3.mono (Nat.le_trans (Nat.le_trans hbl.size hc1.size) hc2.size))).trans (hc4.mono (Nat.le_trans (Nat.le_trans (Nat.le_trans hbl.size hc1.size) hc2.size) hc3.size))
            by_cases hzL : z = L
            · obtain ⟨rfl, hb5⟩ := hsr.yes (fun m => by rw [GW.out.cf, CK.out, dF_ext CV.out, ← hzL]; exact dF_var_same hz1 hz4 m)
              have hb6 := hbu.trans (hb5.mono hbu.size)
              clear hsr HSS CK CV GW hc1 hc2 hc3 hc4 hb5 hbu
              subst hzL
              go_wp2_with fail
              go_roundg ((5 - (z + 1)).toNat)
              case rel => exact ⟨z + 1, by omega, by omega, rfl, by go_num, hb6⟩
              case measure => have := HG.out; omega
            · obtain ⟨rfl, hb5⟩ := hsr.no (m := (0, 0, 0, 0)) (by
                rw [GW.out.cf, CK.out, dF_ext CV.out, dF_var_other hz1 hz4 hzL]
                decide)
              have hb6 := hbu.trans (hb5.mono hbu.size)
              have hzb : (z == L) = false := by simp [hzL]
              clear hsr HSS CK CV GW hc1 hc2 hc3 hc4 hb5 hbu
              go_wp2_with fail
              go_roundg ((5 - (z + 1)).toNat)
              case rel => exact ⟨z + 1, by omega, by omega, rfl, by go_num, hb6⟩
              case measure => have := HG.out; omega
          · obtain rfl : z = 5 := by omega
            have HO := Lib.hid (fun W => IOf_small 7 (by omega) (by omega) W)
            go_wp2_with fail
            refine (HO.out _).mono ?_
            rintro e u3 ⟨n1, A3, c3, d1, rfl, hn3, hv3, hl3, hc3⟩
            have hcon := Const_any n1 A3 c3 u3.heap.size d1 u3 (Nat.le_refl _) hn3 hl3
            rw [hv3] at hcon
            have HCON := Lib.hid hcon
            clear hcon hv3 hn3 hl3 HO
            go_wp2_with fail
            refine HCON.out.mono ?_
            rintro e u4 ⟨Ak, ck, ks, rfl, hgk, hc4⟩
            have g1 : pw 1 < Big := pw_lt (by decide)
            have HDK := Lib.hid (Deriv_any Ak ck u4.heap.size 1 1 0 (pw 1) L ks u4 (Nat.le_refl _) ((hgk.bound (Nat.le_refl _) (Int.le_refl _) (show (7 : Int).natAbs ≤ pw 1 by decide)).pin (by omega) g1) (by omega) g1 (by omega) (by omega) (by rw [Nat.one_mul]; exact g1))
            have CK := Lib.hid hgk.cf
            clear hgk HCON
            go_wp2_with fail
            refine HDK.out.mono ?_
            rintro e u5 ⟨Ae, ce, es, rfl, hge, hb5⟩
            have hbu : Below w.heap.size w u4 := (hbl.trans (hc3.mono hbl.size)).trans (hc4.mono (Nat.le_trans hbl.size hc3.size))
            have hb6 := hbu.trans (hb5.mono hbu.size)
            have hel : es.length = 0 := by rw [hge.empty (fun m => by rw [dF_ext CK.out, dF_const])]; rfl
            clear hge HDK CK hb5 hbu hc3 hc4
            rw [hel]
            go_wp2_with fail
            go_ret
            exact ⟨rfl, hb6⟩
      · have hin := inner_any L w4
        rw [show (decide (1 ≤ L) && decide (L ≤ 4)) = false by
          by_cases h1 : 1 ≤ L
          · rw [decide_eq_false (show ¬ L ≤ 4 by omega), Bool.and_false]
          · rw [decide_eq_false h1]; rfl] at hin
        have HIN := Lib.hid hin
        have hae : aL = [] := GA.out.empty (fun m => by unfold dF; rw [if_neg hL])
        clear hin hL GA
        subst hae
        go_wp2_with fail
        refine HIN.out.mono ?_
        rintro e w4' ⟨rfl, rfl⟩
        clear HIN
        have HS1 := Lib.hid (SAdd_any A0 A1 c0 c1 w.heap.size 8 8 9 (pw 7) (pw 7) ps qs w4 (Nat.le_trans hB k4.size) (I0.out.below (k4.mono hB)) (I1.out.below (k4.mono hB)) (by omega) (Nat.lt_of_le_of_lt d7 g8))
        go_wp2_with fail
        refine HS1.out.mono ?_
        rintro e w5 ⟨As, cs, ss, rfl, hgs, hb5⟩
        have k5 := k4.trans (hb5.mono k4.size)
        have b5 := hb4.trans (hb5.mono hb4.size)
        have gs := hgs.bound (Nat.le_refl _) (Int.le_refl _) d7
        have HDS := Lib.hid (Deriv_any As cs w5.heap.size (8 + 8) 9 9 (pw 8) L ss w5 (Nat.le_refl _) (gs.pin (by omega) g8) (by omega) g8 (by omega) (by omega) (Nat.lt_of_le_of_lt t8 g9))
        have CS := Lib.hid hgs.cf
        clear hgs gs HS1
        go_wp2_with fail
        refine HDS.out.mono ?_
        rintro e w6 ⟨Ad, cd, ds, rfl, hgd, hb6⟩
        have k6 := k5.trans (hb6.mono k5.size)
        have b6 := b5.trans (hb6.mono b5.size)
        have GD := Lib.hid (hgd.bound (Nat.le_refl _) (Int.le_refl _) t8)
        have HS2 := Lib.hid (SAdd_any Aa Ab ca cb w6.heap.size 8 8 9 (pw 8) (pw 8) ([] : List PT) bs w6 (Nat.le_refl _) (IA.out.old b6) (IB.out.old b6) (by omega) (Nat.lt_of_le_of_lt d8 g9))
        clear hgd HDS
        go_wp2_with fail
        refine HS2.out.mono ?_
        rintro e w7 ⟨Ae, ce, es, rfl, hge, hb7⟩
        have k7 := k6.trans (hb7.mono k6.size)
        have b7 := b6.trans (hb7.mono b6.size)
        have ge := hge.bound (Nat.le_refl _) (Int.le_refl _) d8
        have HSS := Lib.hid (SSame_any Ad Ae cd ce w7.heap.size (8 + 8) (8 + 8) 9 9 (pw 9) (pw 9) ds es w7 (Nat.le_refl _) ((GD.out.old hb7).pin (by omega) g9) (ge.pin (by omega) g9) (by omega) (by omega) g9 g9 (by omega) (by omega))
        have HSE := Lib.hid (fun m => show cf (ds.map PT.tm) m = cf (es.map PT.tm) m by
          rw [GD.out.cf, hge.cf, CA.out, CB.out]
          exact dF_add (fun m => by rw [CS.out, HPS.out, HQS.out]) L m)
        clear hge ge HS2 GD
        go_wp2_with fail
        refine HSS.out.mono ?_
        rintro e w8 hsr
        obtain ⟨rfl, hb8⟩ := hsr.yes HSE.out
        have k8 := k7.trans (hb8.mono k7.size)
        have b8 := b7.trans (hb8.mono b7.size)
        clear hsr HSS HSE CS hb5 hb6 hb7 hb8 b5 b6 b7 k5 k6 k7
        have HM1 := Lib.hid (SMul_any A0 A1 c0 c1 w.heap.size 8 8 9 9 (pw 7) (pw 7) ps qs w8 (Nat.le_trans hB k8.size) (I0.out.below (k8.mono hB)) (I1.out.below (k8.mono hB)) (by omega) (by omega) (by omega) (by omega) (by omega) m7 n7 (by rw [p77]; exact g14))
        go_wp2_with fail
        refine HM1.out.mono ?_
        rintro e w9 ⟨Am, cm, ms, rfl, hgm, hb9⟩
        have k9 := k8.trans (hb9.mono k8.size)
        have b9 := b8.trans (hb9.mono b8.size)
        have gm := hgm.bound (Nat.le_refl _) (Int.le_refl _) (Nat.le_of_eq p77)
        have HDM := Lib.hid (Deriv_any Am cm w9.heap.size (8 * 8) 18 (9 + 9) (pw 14) L ms w9 (Nat.le_refl _) (gm.pin (by omega) g14) (by omega) g14 (by omega) (by omega) (Nat.lt_of_le_of_lt t14 g15))
        have CM := Lib.hid hgm.cf
        clear hgm gm HM1
        go_wp2_with fail
        refine HDM.out.mono ?_
        rintro e w10 ⟨An, cn, ns, rfl, hgn, hb10⟩
        have k10 := k9.trans (hb10.mono k9.size)
        have b10 := b9.trans (hb10.mono b9.size)
        have GN := Lib.hid (hgn.bound (Nat.le_refl _) (Int.le_refl _) t14)
        have HM2 := Lib.hid (SMul_any Aa A1 ca c1 w10.heap.size 8 8 9 9 (pw 8) (pw 7) ([] : List PT) qs w10 (Nat.le_refl _) (IA.out.old b10) ((I1.out.below (k10.mono hB)).more (Nat.le_trans hB k10.size)) (by omega) (by omega) (by omega) (by omega) (by omega) m8 n7 (by rw [p87]; exact g15))
        clear hgn HDM
        go_wp2_with fail
        refine HM2.out.mono ?_
        rintro e w11 ⟨Ax, cx, xs, rfl, hgx, hb11⟩
        have k11 := k10.trans (hb11.mono k10.size)
        have b11 := b10.trans (hb11.mono b10.size)
        have GX := Lib.hid (hgx.bound (Nat.le_refl _) (Int.le_refl _) (Nat.le_of_eq p87))
        have GN11 := Lib.hid (GN.out.old hb11)
        have HM3 := Lib.hid (SMul_any A0 Ab c0 cb w11.heap.size 8 8 9 9 (pw 7) (pw 8) ps bs w11 (Nat.le_refl _) ((I0.out.below (k11.mono hB)).more (Nat.le_trans hB k11.size)) (IB.out.old b11) (by omega) (by omega) (by omega) (by omega) (by omega) m7 n8 (by rw [p78]; exact g15))
        clear hgx HM2 GN
        go_wp2_with fail
        refine HM3.out.mono ?_
        rintro e w12 ⟨Ay, cy, ys, rfl, hgy, hb12⟩
        have k12 := k11.trans (hb12.mono k11.size)
        have gy := hgy.bound (Nat.le_refl _) (Int.le_refl _) (Nat.le_of_eq p78)
        have GN12 := Lib.hid (GN11.out.old hb12)
        have HS3 := Lib.hid (SAdd_any Ax Ay cx cy w12.heap.size (8 * 8) (8 * 8) (9 + 9) (pw 15) (pw 15) xs ys w12 (Nat.le_refl _) ((GX.out.old hb12).pin (by omega) g15) (gy.pin (by omega) g15) (by omega) (Nat.lt_of_le_of_lt d15 g16))
        have CX := Lib.hid GX.out.cf; have CY := Lib.hid hgy.cf
        clear hgy gy HM3 GX GN11
        go_wp2_with fail
        refine HS3.out.mono ?_
        rintro e w13 ⟨Az, cz, zs, rfl, hgz, hb13⟩
        have k13 := k12.trans (hb13.mono k12.size)
        have gz := hgz.bound (Nat.le_refl _) (Int.le_refl _) d15
        have HSS := Lib.hid (SSame_any An Az cn cz w13.heap.size (8 * 8) (8 * 8 + 8 * 8) (9 + 9) (9 + 9) (pw 15) (pw 16) ns zs w13 (Nat.le_refl _) ((GN12.out.old hb13).pin (by omega) g15) (gz.pin (by omega) g16) (by omega) (by omega) g15 g16 (by omega) (by omega))
        have HSE := Lib.hid (fun m => show cf (ns.map PT.tm) m = cf (zs.map PT.tm) m by
          rw [GN12.out.cf, hgz.cf, CX.out, CY.out]
          rw [HPS.out, HQS.out]
          exact dF_mul (fun m => by rw [CM.out, HPS.out, HQS.out]) CA.out CB.out m)
        clear hgz gz HS3 GN12
        go_wp2_with fail
        refine HSS.out.mono ?_
        rintro e w14 hsr
        obtain ⟨rfl, hb14⟩ := hsr.yes HSE.out
        have k14 := k13.trans (hb14.mono k13.size)
        have kw : Below w.heap.size w w14 := hb1.trans (k14.mono hB)
        clear hsr HSS HSE CM CX CY hb9 hb10 hb11 hb12 hb13 hb14 b8 b9 b10 b11 k8 k9 k10 k11 k12 k13 k14 I0 I1 IA IB CA CB HPS HQS g7 g8 g9 g14 g15 g16 m7 m8 n7 n8 p77 p87 p78 t7 t8 t14 d7 d8 d15
        go_wp2_with fail
        go_loopg [9, 10] 4 (fun gn ix _ wr => ∃ z : Int, 1 ≤ z ∧ z ≤ 5 ∧ gn = (5 - z).toNat ∧ ix = .int .i64 z ∧ Below w.heap.size w wr)
        case atStart => exact ⟨1, by omega, by omega, rfl, rfl, kw⟩
        case round =>
          obtain ⟨z, hz1, hz5, hgz, rfl, hbl⟩ := hrel
          have HG := Lib.hid hgz; clear hgz
          by_cases hz4 : z ≤ 4
          · have HV := Lib.hid (Var_any z hz1 hz4 wr)
            have HO := Lib.hid (fun W => IOf_small 1 (by omega) (by omega) W)
            go_wp2_with fail
            refine HV.out.mono ?_
            rintro e u1 ⟨Av, cv, vs, rfl, hgv, hc1⟩
            have HDV := Lib.hid (Deriv_any Av cv u1.heap.size 1 1 1 1 L vs u1 (Nat.le_refl _) (hgv.pin (by omega) one_big) (by omega) one_big (by omega) (by omega) one_big)
            have CV := Lib.hid hgv.cf
            clear hgv HV
            go_wp2_with fail
            refine HDV.out.mono ?_
            rintro e u2 ⟨Aw, cw, ws, rfl, hgw, hc2⟩
            have GW := Lib.hid (show PGood u2 u1.heap.size (.slice Aw ws.length cw) ws (dF L (vs.map PT.tm)) 1 1 1 from hgw)
            clear hgw HDV
            go_wp2_with fail
            refine (HO.out _).mono ?_
            rintro e u3 ⟨n1, A3, c3, d1, rfl, hn3, hv3, hl3, hc3⟩
            have hcon := Const_any n1 A3 c3 u3.heap.size d1 u3 (Nat.le_refl _) hn3 hl3
            rw [hv3] at hcon
            have HCON := Lib.hid hcon
            clear hcon hv3 hn3 hl3 HO
            go_wp2_with fail
            refine HCON.out.mono ?_
            rintro e u4 ⟨Ak, ck, ks, rfl, hgk, hc4⟩
            have HSS := Lib.hid (SSame_any Aw Ak cw ck u4.heap.size 1 1 1 0 1 1 ws ks u4 (Nat.le_refl _) (((GW.out.old hc3).old hc4).pin (by omega) one_big) ((hgk.bound (Nat.le_refl _) (Int.le_refl _) (Nat.le_refl 1)).pin (by omega) one_big) (by omega) (by omega) one_big one_big (by omega) (by omega))
            have CK := Lib.hid hgk.cf
            clear hgk HCON
            go_wp2_with fail
            refine HSS.out.mono ?_
            rintro e u5 hsr
            have hbu : Below w.heap.size w u4 := (((hbl.trans (hc1.mono hbl.size)).trans (hc2.mono (Nat.le_trans hbl.size hc1.size))).trans (hc3.mono (Nat.le_trans (Nat.le_trans hbl.size hc1.size) hc2.size))).trans (hc4.mono (Nat.le_trans (Nat.le_trans (Nat.le_trans hbl.size hc1.size) hc2.size) hc3.size))
            by_cases hzL : z = L
            · obtain ⟨rfl, hb5⟩ := hsr.yes (fun m => by rw [GW.out.cf, CK.out, dF_ext CV.out, ← hzL]; exact dF_var_same hz1 hz4 m)
              have hb6 := hbu.trans (hb5.mono hbu.size)
              clear hsr HSS CK CV GW hc1 hc2 hc3 hc4 hb5 hbu
              subst hzL
              go_wp2_with fail
              go_roundg ((5 - (z + 1)).toNat)
              case rel => exact ⟨z + 1, by omega, by omega, rfl, by go_num, hb6⟩
              case measure => have := HG.out; omega
            · obtain ⟨rfl, hb5⟩ := hsr.no (m := (0, 0, 0, 0)) (by
                rw [GW.out.cf, CK.out, dF_ext CV.out, dF_var_other hz1 hz4 hzL]
                decide)
              have hb6 := hbu.trans (hb5.mono hbu.size)
              have hzb : (z == L) = false := by simp [hzL]
              clear hsr HSS CK CV GW hc1 hc2 hc3 hc4 hb5 hbu
              go_wp2_with fail
              go_roundg ((5 - (z + 1)).toNat)
              case rel => exact ⟨z + 1, by omega, by omega, rfl, by go_num, hb6⟩
              case measure => have := HG.out; omega
          · obtain rfl : z = 5 := by omega
            have HO := Lib.hid (fun W => IOf_small 7 (by omega) (by omega) W)
            go_wp2_with fail
            refine (HO.out _).mono ?_
            rintro e u3 ⟨n1, A3, c3, d1, rfl, hn3, hv3, hl3, hc3⟩
            have hcon := Const_any n1 A3 c3 u3.heap.size d1 u3 (Nat.le_refl _) hn3 hl3
            rw [hv3] at hcon
            have HCON := Lib.hid hcon
            clear hcon hv3 hn3 hl3 HO
            go_wp2_with fail
            refine HCON.out.mono ?_
            rintro e u4 ⟨Ak, ck, ks, rfl, hgk, hc4⟩
            have g1 : pw 1 < Big := pw_lt (by decide)
            have HDK := Lib.hid (Deriv_any Ak ck u4.heap.size 1 1 0 (pw 1) L ks u4 (Nat.le_refl _) ((hgk.bound (Nat.le_refl _) (Int.le_refl _) (show (7 : Int).natAbs ≤ pw 1 by decide)).pin (by omega) g1) (by omega) g1 (by omega) (by omega) (by rw [Nat.one_mul]; exact g1))
            have CK := Lib.hid hgk.cf
            clear hgk HCON
            go_wp2_with fail
            refine HDK.out.mono ?_
            rintro e u5 ⟨Ae, ce, es, rfl, hge, hb5⟩
            have hbu : Below w.heap.size w u4 := (hbl.trans (hc3.mono hbl.size)).trans (hc4.mono (Nat.le_trans hbl.size hc3.size))
            have hb6 := hbu.trans (hb5.mono hbu.size)
            have hel : es.length = 0 := by rw [hge.empty (fun m => by rw [dF_ext CK.out, dF_const])]; rfl
            clear hge HDK CK hb5 hbu hc3 hc4
            rw [hel]
            go_wp2_with fail
            go_ret
            exact ⟨rfl, hb6⟩
end Go.Proofs.Ytpbapoanjkekmaa
