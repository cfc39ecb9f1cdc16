/- The walk of SparseEval. -/
import Derived.IntWalk
import Derived.RegionTactic
import Derived.Deep.RegionHeld3
import Derived.Deep.DeepCutAuto
import Derived.Test.YtpbapoanjkekmaaGreatZR
import Derived.Test.YtpbapoanjkekmaaGreatPK
import Derived.Test.YtpbapoanjkekmaaGreatPJ
namespace Go.Proofs.YtpbapoanjkekmaaGreat
open Go.RowKit
attribute [local go_sem ↓] Go.wp_at_zero Go.wp_at_succ

/-- a number in lowest terms that was made -/
structure RM (V : World) (q : Rat) (A : Option Addr) (c : Nat) (D : Option Addr) (d : Nat) : Prop where
  l1 : (dig q.num.natAbs).length ≤ c
  l2 : (dig q.den).length ≤ d
  n1 : NatB V A (dig q.num.natAbs)
  n2 : NatB V D (dig q.den)
theorem RM.old {V V' : World} {q : Rat} {A D : Option Addr} {c d : Nat} (h : RM V q A c D d) (hb : Below V.heap.size V V') : RM V' q A c D d := ⟨h.l1, h.l2, h.n1.old hb, h.n2.old hb⟩
theorem RM.rin {V : World} {q : Rat} {A D : Option Addr} {c d : Nat} (h : RM V q A c D d) : RIn V V.heap.size q A c D d := RIn.made h.l1 h.l2 h.n1 h.n2
theorem RS.rm {V : World} {g : Nat} {q : Rat} {A D : Option Addr} {c d : Nat} (h : RS V g q A c D d) : RM V q A c D d := ⟨h.l1, h.l2, h.n1, h.n2⟩
def RatM (q : Rat) (w : World) (e : Ending) (w' : World) : Prop := ∃ A c D d, e = .returned (rvl q A c D d) ∧ RM w' q A c D d ∧ Below w.heap.size w w'
theorem RatRes.m {q : Rat} {w : World} {e : Ending} {w' : World} (h : RatRes q w e w') : RatM q w e w' := by
  obtain ⟨A, c, D, d, h1, h2, h3, h4, h5, h6⟩ := h
  exact ⟨A, c, D, d, h1, ⟨h2, h3, h4, h5⟩, h6⟩
def TrueP (w : World) (e : Ending) (w' : World) : Prop := e = .returned (.bool true) ∧ Below w.heap.size w w'
theorem same_yes (q : Rat) (V : World) (A : Option Addr) (c : Nat) (D : Option Addr) (d : Nat) (A' : Option Addr) (c' : Nat) (D' : Option Addr) (d' : Nat) (h : RM V q A c D d) (h' : RM V q A' c' D' d') (hL : RL q 400000) : Calls Tryz.prog 10 #[rvl q A c D d, rvl q A' c' D' d'] V (TrueP V) := by
  have := same_any (decide (q.num < 0)) (decide (q.num < 0)) A c _ D d _ A' c' _ D' d' _ V.heap.size V (Nat.le_refl _) h.rin.nm h.rin.dn h'.rin.nm h'.rin.dn hL.n hL.d hL.n hL.d
  rw [r_self] at this
  refine this.mono fun e w' ⟨b, h1, h2, h3⟩ => ⟨?_, h3⟩
  rw [h1, h2.2 rfl]
theorem pin_RL {pt : Nat → Rat} {P E Z : Nat} (hp : ∀ i, RL (pt i) P) (hZ0 : 0 < Z) {w : World} {B N M : Nat} {A : Option Addr} {ps : List PT} (h : PIn w B A ps N (E : Int) M) (hZ : M < 4294967296 ^ Z) : RL (evL pt (ps.map PT.tm)) (N * (Z + 4 * (P * E) + 1) + 1) := by
  have e : evL pt (ps.map PT.tm) = evL pt (vF (ps.map PT.tm)) := (linQ_vF _ _).symm
  rw [e]
  refine (evL_RL (P := P) (E := E) hp hZ0 _ ?_).mono (Nat.add_le_add_right (Nat.mul_le_mul_right _ ?_) 1)
  · intro t ht
    have hv := vF_vl _ t ht
    obtain ⟨y, hy, rfl⟩ := List.mem_map.1 (List.mem_filter.1 ht).1
    exact ⟨Nat.lt_of_le_of_lt (Nat.le_trans (nrm_mem (t := y.tm) (List.mem_map.2 ⟨y, hy, rfl⟩)) h.nm) hZ, fun k hk => mb_gt (h.mb y hy hv) k hk⟩
  · refine Nat.le_trans (List.length_filter_le _ _) ?_
    rw [List.length_map]
    exact h.len
theorem pin_RLn {pt : Nat → Rat} {P E Z : Nat} (hp : ∀ i, RL (pt i) P) (hZ0 : 0 < Z) {w : World} {B N M : Nat} {A : Option Addr} {ps : List PT} (h : PIn w B A ps N (E : Int) M) (hZ : M < 4294967296 ^ Z) : RL (evL pt (ps.map PT.tm)) (Z + 4 * (P * E)) := by
  have e : evL pt (ps.map PT.tm) = evL pt (vF (ps.map PT.tm)) := (linQ_vF _ _).symm
  rw [e]
  refine evL_RLn (P := P) (E := E) hp hZ0 _ ?_ (Nat.lt_of_le_of_lt (Nat.le_trans (nrm_vF _) h.nm) hZ)
  intro t ht k hk
  have hv := vF_vl _ t ht
  obtain ⟨y, hy, rfl⟩ := List.mem_map.1 (List.mem_filter.1 ht).1
  exact mb_gt (h.mb y hy hv) k hk
theorem pw_eq (k : Nat) : pw k = 4294967296 ^ k := rfl
theorem Eval_g {B N M : Nat} {E : Int} (A : Option Addr) (c : Nat) (r : List PT) (Av : Option Addr) (cv : Nat) (vs : List QT) (V : World) (hB : B ≤ V.heap.size) (h : PIn V B A r N E M) (hN : N ≤ 512) (hE : E ≤ 27) (hM : M ≤ pw 21) (hv : RatsIn V B Av vs) (hP : ∀ x ∈ vs, x.ds.length ≤ 2 ∧ x.es.length ≤ 2) :
    Calls Tryz.prog 9 #[.slice A r.length c, .slice Av vs.length cv] V (RatM (evL (ptL vs) (r.map PT.tm)) V) :=
  (Eval_any A c B 512 27 (pw 21) r Av cv vs 2 22 V hB (h.bound hN hE hM) hv (by omega) (pw_lt (by decide)) (by omega) hP (by omega) (by rw [← pw_eq]; exact pw_lt (by decide)) (by omega) (by omega)).mono fun _ _ h => h.m
/-- behind 'cube := ..': a box with the cube -/
def CubeP (W : World) (q : Rat) (v : Value) (wx : World) : Prop := ∃ g A c D d, v = .pointer (some ⟨g, 0, none⟩) ∧ Below W.heap.size W wx ∧ RS wx g q A c D d
theorem CubeP.mk {W V : World} {g : Nat} {u v z : Value} {q : Rat} {A D : Option Addr} {c d : Nat} (kk : Blk V g 33 #[u, v, z]) (hb : Below W.heap.size W V) (hg : W.heap.size ≤ g) (r : RM V q A c D d) :
    CubeP W q (.pointer (some ⟨g, 0, none⟩)) (set3 V g (.bool (decide (q.num < 0))) (.slice A (dig q.num.natAbs).length c) (.slice D (dig q.den).length d)) :=
  ⟨g, A, c, D, d, rfl, below_set3 hb hg _ _ _, RS.set kk r.l1 r.l2 r.n1 r.n2⟩

set_option maxHeartbeats 8000000 in
set_option maxRecDepth 100000 in
theorem Eval_law (A0 A1 Av : Option Addr) (c0 c1 cv : Nat) (ps qs : List PT) (vs : List QT) (w : World) (h0 : PolyIn w w.heap.size A0 ps) (h1 : PolyIn w w.heap.size A1 qs) (hv : RatsIn w w.heap.size Av vs) (v0 : ∀ p ∈ ps, WfM p.m) (v1 : ∀ p ∈ qs, WfM p.m) :
    Calls Tryz.prog 3 #[.slice A0 ps.length c0, .slice A1 qs.length c1, .slice Av vs.length cv] w (TrueP w) := by
  have HFT := Lib.hid (fun W => fit_any W)
  have H0 := Lib.hid h0; have H1 := Lib.hid h1; have HV := Lib.hid hv
  have V0 := Lib.hid v0; have V1 := Lib.hid v1
  clear h0 h1 v0 v1 hv
  generalize hvl : vs.length = vn at *
  have HVL := Lib.hid hvl
  clear hvl
  go_enter Tryz.func3, Tryz.ntmps3
  go_wp2_with fail
  refine (HFT.out _).mono ?_
  rintro e w1 ⟨rfl, hb1⟩
  have HF0 := Lib.hid (few_any A0 c0 w.heap.size ps w1 (H0.out.below hb1))
  have HF1 := Lib.hid (few_any A1 c1 w.heap.size qs w1 (H1.out.below hb1))
  have HFV := Lib.hid (values_any Av cv w.heap.size vs w1 (HV.out.below hb1))
  rw [HVL.out] at HFV
  unfold FVRes at HFV
  clear HFT
  go_wp2_with fail
  refine HF0.out.mono ?_
  rintro e w1' ⟨b0, rfl, hf0, rfl⟩
  cases b0 with
  | false =>
    clear hf0
    go_wp2_with fail
    go_ret
    exact ⟨rfl, hb1⟩
  | true =>
  have F0 := Lib.hid (hf0 rfl)
  clear hf0
  go_wp2_with fail
  refine HF1.out.mono ?_
  rintro e w1' ⟨b1, rfl, hf1, rfl⟩
  cases b1 with
  | false =>
    clear hf1
    go_wp2_with fail
    go_ret
    exact ⟨rfl, hb1⟩
  | true =>
  have F1 := Lib.hid (hf1 rfl)
  clear hf1
  go_wp2_with fail
  refine HFV.out.mono ?_
  rintro e w1' ⟨b2, rfl, hf2, rfl⟩
  cases b2 with
  | false =>
    clear hf2
    go_wp2_with fail
    go_ret
    exact ⟨rfl, hb1⟩
  | true =>
  have hP := (hf2 rfl).2
  have I0 := Lib.hid ((few_pin H0.out V0.out F0.out (by omega) (by omega)).below hb1)
  have I1 := Lib.hid ((few_pin H1.out V1.out F1.out (by omega) (by omega)).below hb1)
  have HRV := Lib.hid (HV.out.below hb1)
  have hB := hb1.size
  have g1 : pw (6 + 1) < Big := pw_lt (by decide)
  have hpt : ∀ i, RL (ptL vs i) 2 := ptL_RL (by omega) (fun x hx => ⟨(hP x hx).1, (hP x hx).2, (HV.out.nn x hx).dg, (HV.out.nd x hx).dg⟩)
  have hX : RL (evL (ptL vs) (ps.map PT.tm)) 1000 := (pin_RL (P := 2) (E := 9) (Z := 8) hpt (by omega) I0.out (by rw [← pw_eq]; exact pw_lt (by decide))).mono (by omega)
  have hY : RL (evL (ptL vs) (qs.map PT.tm)) 1000 := (pin_RL (P := 2) (E := 9) (Z := 8) hpt (by omega) I1.out (by rw [← pw_eq]; exact pw_lt (by decide))).mono (by omega)
  have HEP := Lib.hid (fun (W : World) (hW : Below w1.heap.size w1 W) => Eval_g A0 c0 ps Av cv vs W (Nat.le_trans hB hW.size) (I0.out.below (hW.mono hB)) (by omega) (by omega) (pw_le (by decide)) (HRV.out.below (hW.mono hB)) hP)
  have HEQ := Lib.hid (fun (W : World) (hW : Below w1.heap.size w1 W) => Eval_g A1 c1 qs Av cv vs W (Nat.le_trans hB hW.size) (I1.out.below (hW.mono hB)) (by omega) (by omega) (pw_le (by decide)) (HRV.out.below (hW.mono hB)) hP)
  have HEG := Lib.hid (fun (W : World) (hW : Below w1.heap.size w1 W) (A : Option Addr) (c : Nat) (r : List PT) (N : Nat) (E : Int) (M : Nat) (h : PIn W W.heap.size A r N E M) (hN : N ≤ 512) (hE : E ≤ 27) (hM : M ≤ pw 21) => Eval_g A c r Av cv vs W (Nat.le_refl _) h hN hE hM ((HRV.out.below (hW.mono hB)).more (Nat.le_trans hB hW.size)) hP)
  have HVA := Lib.hid (fun (W : World) (hW : Below w1.heap.size w1 W) => (Value_any A0 c0 w.heap.size 9 ps Av cv vs 2 6 W (Nat.le_trans hB hW.size) ((H0.out.below hb1).below (hW.mono hB)) (HRV.out.below (hW.mono hB)) (fun p hp => ⟨((F0.out.2 p hp).2 0 (by omega)).2, ((F0.out.2 p hp).2 1 (by omega)).2, ((F0.out.2 p hp).2 2 (by omega)).2, ((F0.out.2 p hp).2 3 (by omega)).2⟩) (fun p hp => (F0.out.2 p hp).1) (by omega) (by omega) (by omega) hP (by omega) (by omega) (by omega) (by have := F0.out.1; omega)).mono fun _ _ h => RatRes.m h)
  rw [HVL.out] at HEP HEQ HEG HVA
  have HSA := Lib.hid (fun (W : World) (hW : Below w1.heap.size w1 W) => SAdd_any A0 A1 c0 c1 w.heap.size 8 8 9 (pw (6 + 1)) (pw (6 + 1)) ps qs W (Nat.le_trans hB hW.size) (I0.out.below (hW.mono hB)) (I1.out.below (hW.mono hB)) (by omega) (Nat.lt_of_le_of_lt (pw_dbl 7) (pw_lt (by decide))))
  have HSM := Lib.hid (fun (W : World) (hW : Below w1.heap.size w1 W) => SMul_any A0 A1 c0 c1 w.heap.size 8 8 9 9 (pw (6 + 1)) (pw (6 + 1)) ps qs W (Nat.le_trans hB hW.size) (I0.out.below (hW.mono hB)) (I1.out.below (hW.mono hB)) (by omega) (by omega) (by omega) (by omega) (by omega) (pw_lt (by decide)) (pw_lt (by decide)) (by rw [pw_mul]; exact pw_lt (by decide)))
  have HPW := Lib.hid (fun (W : World) (hW : Below w1.heap.size w1 W) => Pow_n3 A0 c0 w.heap.size 8 9 (pw (6 + 1)) ps W (Nat.le_trans hB hW.size) (I0.out.below (hW.mono hB)) (by omega) (pw_pos _) (by omega) (by omega) (by omega) (by rw [pw_eq, ← Nat.pow_mul]; exact pw_lt (a := 21) (by decide)))
  have HP1 := Lib.hid (fun (W : World) (hW : Below w1.heap.size w1 W) => Pow_n1 A0 c0 w.heap.size 8 9 (pw (6 + 1)) ps W (Nat.le_trans hB hW.size) (I0.out.below (hW.mono hB)) (by omega) (pw_pos _) (by omega) (by omega) (by omega) (by rw [Nat.pow_one]; exact pw_lt (by decide)))
  have HPN := Lib.hid (fun (W : World) (hW : Below w1.heap.size w1 W) => Pow_neg2 A0 c0 w.heap.size 8 9 (pw (6 + 1)) ps W (Nat.le_trans hB hW.size) (I0.out.below (hW.mono hB)) (by omega) g1)
  unfold PRes at HSA HSM HPW HP1 HPN
  have HEA := Lib.hid (fun (r : List PT) (h : ∀ m, cf (r.map PT.tm) m = cf (ps.map PT.tm) m + cf (qs.map PT.tm) m) => evL_sum h (ptL vs))
  have HEM := Lib.hid (fun (r : List PT) (h : ∀ m, cf (r.map PT.tm) m = mulC (ps.map PT.tm) (qs.map PT.tm) m) => evL_mul h (ptL vs))
  have HE3 := Lib.hid (fun (r : List PT) (h : ∀ m, cf (r.map PT.tm) m = cf (powL (vF (ps.map PT.tm)) 3) m) => show evL (ptL vs) (r.map PT.tm) = evL (ptL vs) (ps.map PT.tm) * (evL (ptL vs) (ps.map PT.tm) * evL (ptL vs) (ps.map PT.tm)) by
    rw [evL_ext h, evL_pow _ (vF_vl _), show evL (ptL vs) (vF (ps.map PT.tm)) = evL (ptL vs) (ps.map PT.tm) from linQ_vF _ _, Rat.pow_succ, Rat.pow_succ, Rat.pow_succ, Rat.pow_zero, Rat.one_mul, Rat.mul_assoc])
  have HEX1 := Lib.hid (fun (r : List PT) (h : ∀ m, cf (r.map PT.tm) m = cf (powL (vF (ps.map PT.tm)) 1) m) => show ∀ m, cf (r.map PT.tm) m = cf (ps.map PT.tm) m from fun m => by rw [h, powL_one, cf_vF])
  generalize evL (ptL vs) (ps.map PT.tm) = ex at *
  generalize evL (ptL vs) (qs.map PT.tm) = ey at *
  have HX := Lib.hid hX; have HY := Lib.hid hY
  clear hf2 hP hpt hX hY g1 HF0 HF1 HFV H0 H1 HV V0 V1 F0 F1
  unfold RatM at HEP HEQ
  go_upto_region 6 with (first | (go_at_call 9; (with_reducible refine (HEP.out _ (Below.refl _ _)).mono ?_); rintro e w2 ⟨A2, c2, D2, d2, rfl, r2, hb2⟩) | (go_at_call 9; (with_reducible refine (HEQ.out _ hb2).mono ?_); rintro e w3 ⟨A3, c3, D3, d3, rfl, r3, hb3⟩))
  obtain ⟨hbx, kx, ky, _⟩ := boxes2 w3 33 33 (rcells ex A2 c2 D2 d2) (rcells ey A3 c3 D3 d3)
  unfold rcells at hbx kx ky
  have hb13 := hb2.trans (hb3.mono hb2.size)
  have hb14 := hb13.trans (hbx.mono hb13.size)
  have X4 := Lib.hid ((r2.old hb3).old hbx); have Y4 := Lib.hid (r3.old hbx)
  clear HEP HEQ r2 r3 hb2 hb3 hb13 hbx
  generalize (w3.alloc (.cells #[.bool (decide (ex.num < 0)), .slice A2 (dig ex.num.natAbs).length c2, .slice D2 (dig ex.den).length d2] 33)).alloc (.cells #[.bool (decide (ey.num < 0)), .slice A3 (dig ey.num.natAbs).length c3, .slice D3 (dig ey.den).length d3] 33) = W4 at *
  generalize w3.heap.size = gx at *
  have KX := Lib.hid kx; have KY := Lib.hid ky
  have HB14 := Lib.hid hb14
  have HW1 := Lib.hid (fun (V : World) (hV : Below W4.heap.size W4 V) => hb14.trans (hV.mono hb14.size))
  have KF := Lib.hid (fun (V : World) (hV : Below W4.heap.size W4 V) => (⟨(KX.out.old hV).cell 0, (KX.out.old hV).cell 1, (KX.out.old hV).cell 2, (KY.out.old hV).cell 0, (KY.out.old hV).cell 1, (KY.out.old hV).cell 2⟩ :
    V.cell? ⟨gx, 0, none⟩ = some (.bool (decide (ex.num < 0))) ∧ V.cell? ⟨gx, 1, none⟩ = some (.slice A2 (dig ex.num.natAbs).length c2) ∧ V.cell? ⟨gx, 2, none⟩ = some (.slice D2 (dig ex.den).length d2) ∧ V.cell? ⟨gx + 1, 0, none⟩ = some (.bool (decide (ey.num < 0))) ∧ V.cell? ⟨gx + 1, 1, none⟩ = some (.slice A3 (dig ey.num.natAbs).length c3) ∧ V.cell? ⟨gx + 1, 2, none⟩ = some (.slice D3 (dig ey.den).length d3)))
  have R1 := Lib.hid (fun (V : World) (hV : Below W4.heap.size W4 V) => HVA.out V (HW1.out V hV))
  have R2 := Lib.hid (fun (V : World) (A' : Option Addr) (c' : Nat) (D' : Option Addr) (d' : Nat) (hV : Below W4.heap.size W4 V) (r : RM V ex A' c' D' d') => same_yes ex V A2 c2 D2 d2 A' c' D' d' (X4.out.old hV) r (HX.out.mono (by omega)))
  have R3 := Lib.hid (fun (V : World) (hV : Below W4.heap.size W4 V) => HSA.out V (HW1.out V hV))
  have R4 := Lib.hid (fun (V : World) (b : Nat) (A : Option Addr) (c : Nat) (r : List PT) (hV : Below W4.heap.size W4 V) (hg : PGood V b (.slice A r.length c) r (fun m => cf (ps.map PT.tm) m + cf (qs.map PT.tm) m) (8 + 8) 9 (pw (6 + 1) + pw (6 + 1))) => show Calls Tryz.prog 9 #[.slice A r.length c, .slice Av vn cv] V (RatM (ex + ey) V) by
    rw [← HEA.out r hg.cf]
    exact HEG.out V (HW1.out V hV) A c r (8 + 8) 9 (pw (6 + 1) + pw (6 + 1)) (hg.pin (by omega) (Nat.lt_of_le_of_lt (pw_dbl 7) (pw_lt (by decide)))) (by omega) (by omega) (Nat.le_trans (pw_dbl 7) (pw_le (by decide))))
  have R5 := Lib.hid (fun (V : World) (hV : Below W4.heap.size W4 V) => (RAdd_r ex ey A2 c2 D2 d2 A3 c3 D3 d3 V.heap.size V (Nat.le_refl _) (X4.out.old hV).rin (Y4.out.old hV).rin HX.out HY.out (by omega) (by omega)).mono fun _ _ h => RatRes.m h)
  have R6 := Lib.hid (fun (V : World) (A : Option Addr) (c : Nat) (D : Option Addr) (d : Nat) (A' : Option Addr) (c' : Nat) (D' : Option Addr) (d' : Nat) (r : RM V (ex + ey) A c D d) (r' : RM V (ex + ey) A' c' D' d') => same_yes (ex + ey) V A c D d A' c' D' d' r r' ((HX.out.add HY.out).mono (by omega)))
  have R7 := Lib.hid (fun (V : World) (hV : Below W4.heap.size W4 V) => HSM.out V (HW1.out V hV))
  have R8 := Lib.hid (fun (V : World) (b : Nat) (A : Option Addr) (c : Nat) (r : List PT) (hV : Below W4.heap.size W4 V) (hg : PGood V b (.slice A r.length c) r (mulC (ps.map PT.tm) (qs.map PT.tm)) (8 * 8) (9 + 9) (pw (6 + 1) * pw (6 + 1))) => show Calls Tryz.prog 9 #[.slice A r.length c, .slice Av vn cv] V (RatM (ex * ey) V) by
    rw [← HEM.out r hg.cf]
    exact HEG.out V (HW1.out V hV) A c r (8 * 8) (9 + 9) (pw (6 + 1) * pw (6 + 1)) (hg.pin (by omega) (by rw [pw_mul]; exact pw_lt (by decide))) (by omega) (by omega) (by rw [pw_mul]; exact pw_le (by decide)))
  have R9 := Lib.hid (fun (V : World) (hV : Below W4.heap.size W4 V) => (RMul_r ex ey A2 c2 D2 d2 A3 c3 D3 d3 V.heap.size V (Nat.le_refl _) (X4.out.old hV).rin (Y4.out.old hV).rin HX.out HY.out (by omega) (by omega)).mono fun _ _ h => RatRes.m h)
  have R10 := Lib.hid (fun (V : World) (A : Option Addr) (c : Nat) (D : Option Addr) (d : Nat) (A' : Option Addr) (c' : Nat) (D' : Option Addr) (d' : Nat) (r : RM V (ex * ey) A c D d) (r' : RM V (ex * ey) A' c' D' d') => same_yes (ex * ey) V A c D d A' c' D' d' r r' ((HX.out.mul HY.out).mono (by omega)))
  unfold RatM at R1 R4 R5 R8 R9
  unfold TrueP at R2 R6 R10
  unfold rvl at R1 R2 R4 R5 R6 R8 R9 R10
  have hb : Below W4.heap.size W4 W4.drew := (Drawn.drew _).below _
  have hb0 : Below W4.heap.size W4 W4 := Below.refl _ _
  clear kx ky hb14 HSA HSM HVA HEA HEM
  go_upto_region 6 with (fail)
  go_cut [60] (fun v wx => v = .bool false ∧ Below W4.heap.size W4 wx)
  case first =>
    clear HPW HP1 HPN HEX1 HE3 HEG HX HY X4 Y4 KX KY
    generalize ex + ey = es at *
    generalize ex * ey = em at *
    go_region_held3 (fun V => V.cell? ⟨gx, 0, none⟩ = some (.bool (decide (ex.num < 0))) ∧ V.cell? ⟨gx, 1, none⟩ = some (.slice A2 (dig ex.num.natAbs).length c2) ∧ V.cell? ⟨gx, 2, none⟩ = some (.slice D2 (dig ex.den).length d2) ∧ V.cell? ⟨gx + 1, 0, none⟩ = some (.bool (decide (ey.num < 0))) ∧ V.cell? ⟨gx + 1, 1, none⟩ = some (.slice A3 (dig ey.num.natAbs).length c3) ∧ V.cell? ⟨gx + 1, 2, none⟩ = some (.slice D3 (dig ey.den).length d3))
      (first | (with_reducible exact KF.out _ hb) | (with_reducible exact KF.out _ hb0))
      (first
        | (go_at_call 11; (with_reducible refine (R1.out _ hb).mono ?_); rintro e w5 ⟨A5, c5, D5, d5, rfl, r5, hk⟩; replace hb := hb.trans (hk.mono hb.size))
        | (go_at_call 10; (with_reducible refine (R2.out _ _ _ _ _ hb r5).mono ?_); rintro e w6 ⟨rfl, hk⟩; replace hb := hb.trans (hk.mono hb.size); clear r5)
        | (go_at_call 12; (with_reducible refine (R3.out _ hb).mono ?_); rintro e w7 ⟨A7, c7, p7, rfl, g7, hk⟩; replace hb := hb.trans (hk.mono hb.size))
        | (go_at_call 9; (with_reducible refine (R4.out _ _ _ _ _ hb g7).mono ?_); rintro e w8 ⟨A8, c8, D8, d8, rfl, r8, hk⟩; replace hb := hb.trans (hk.mono hb.size); clear g7)
        | (go_at_call 13; (with_reducible refine (R5.out _ hb).mono ?_); rintro e w9 ⟨A9, c9, D9, d9, rfl, r9, hk⟩; replace hb := hb.trans (hk.mono hb.size); replace r8 := RM.old r8 hk)
        | (go_at_call 10; (with_reducible refine (R6.out _ _ _ _ _ _ _ _ _ r8 r9).mono ?_); rintro e w10 ⟨rfl, hk⟩; replace hb := hb.trans (hk.mono hb.size); clear r8 r9)
        | (go_at_call 14; (with_reducible refine (R7.out _ hb).mono ?_); rintro e w11 ⟨A11, c11, p11, rfl, g11, hk⟩; replace hb := hb.trans (hk.mono hb.size))
        | (go_at_call 9; (with_reducible refine (R8.out _ _ _ _ _ hb g11).mono ?_); rintro e w12 ⟨A12, c12, D12, d12, rfl, r12, hk⟩; replace hb := hb.trans (hk.mono hb.size); clear g11)
        | (go_at_call 15; (with_reducible refine (R9.out _ hb).mono ?_); rintro e w13 ⟨A13, c13, D13, d13, rfl, r13, hk⟩; replace hb := hb.trans (hk.mono hb.size); replace r12 := RM.old r12 hk)
        | (go_at_call 10; (with_reducible refine (R10.out _ _ _ _ _ _ _ _ _ r12 r13).mono ?_); rintro e w14 ⟨rfl, hk⟩; replace hb := hb.trans (hk.mono hb.size); clear r12 r13))
    clear hb0
    go_wp2_with fail
    go_meet
    exact ⟨rfl, hb⟩
  case rest =>
    obtain ⟨rfl, hbc⟩ := hcut
    clear R1 R2 R3 R4 R5 R6 R7 R8 R9 R10 hb hb0
    have HM1 := Lib.hid (fun (V : World) (hV : Below W4.heap.size W4 V) => (RMul_r ex ex A2 c2 D2 d2 A2 c2 D2 d2 V.heap.size V (Nat.le_refl _) (X4.out.old hV).rin (X4.out.old hV).rin HX.out HX.out (by omega) (by omega)).mono fun _ _ h => RatRes.m h)
    have HM2 := Lib.hid (fun (V : World) (A : Option Addr) (c : Nat) (D : Option Addr) (d : Nat) (r : RM V (ex * ex) A c D d) (hV : Below W4.heap.size W4 V) => (RMul_r ex (ex * ex) A2 c2 D2 d2 A c D d V.heap.size V (Nat.le_refl _) (X4.out.old hV).rin r.rin HX.out (HX.out.mul HX.out) (by omega) (by omega)).mono fun _ _ h => RatRes.m h)
    have HCR := Lib.hid (show RL (ex * (ex * ex)) 400000 from (HX.out.mul (HX.out.mul HX.out)).mono (by omega))
    unfold RatM at HM1 HM2
    unfold rvl at HM1 HM2
    generalize ex * (ex * ex) = cu at *
    generalize ex * ex = sq at *
    go_upto_region 8 with (fail)
    go_cut [9] (fun v wx => CubeP wc cu v wx)
    case first =>
      have hgy : gx + 1 < W4.heap.size := KY.out.lt
      replace HM1 := Lib.hid (fun (V : World) (hV : Below wc.heap.size wc V) => HM1.out V (hbc.trans (hV.mono hbc.size)))
      replace HM2 := Lib.hid (fun (V : World) (A : Option Addr) (c : Nat) (D : Option Addr) (d : Nat) (r : RM V sq A c D d) (hV : Below wc.heap.size wc V) => HM2.out V A c D d r (hbc.trans (hV.mono hbc.size)))
      have KF := Lib.hid (fun (V : World) (hV : Below wc.heap.size wc V) => (KF.out V (hbc.trans (hV.mono hbc.size))).1)
      have KF1 := Lib.hid (fun (V : World) (hV : Below wc.heap.size wc V) => (⟨(KX.out.old (hbc.trans (hV.mono hbc.size))).cell 0, (KX.out.old (hbc.trans (hV.mono hbc.size))).cell 1, (KX.out.old (hbc.trans (hV.mono hbc.size))).cell 2⟩ :
        V.cell? ⟨gx, 0, none⟩ = some (.bool (decide (ex.num < 0))) ∧ V.cell? ⟨gx, 1, none⟩ = some (.slice A2 (dig ex.num.natAbs).length c2) ∧ V.cell? ⟨gx, 2, none⟩ = some (.slice D2 (dig ex.den).length d2)))
      clear KF
      have KF := KF1
      have hgw := hbc.size
      have KS := Lib.hid (fun (V : World) (hV : Below wc.heap.size wc V) (g : Nat) (hg : wc.heap.size ≤ g) (a1 a2 a3 : Value) => (⟨cell_far3 (KF1.out V hV).1 (show g ≠ gx by omega) a1 a2 a3, cell_far3 (KF1.out V hV).2.1 (show g ≠ gx by omega) a1 a2 a3, cell_far3 (KF1.out V hV).2.2 (show g ≠ gx by omega) a1 a2 a3⟩ :
        (((V.setCell ⟨g, 0, none⟩ a1).setCell ⟨g, 1, none⟩ a2).setCell ⟨g, 2, none⟩ a3).cell? ⟨gx, 0, none⟩ = some (.bool (decide (ex.num < 0))) ∧ (((V.setCell ⟨g, 0, none⟩ a1).setCell ⟨g, 1, none⟩ a2).setCell ⟨g, 2, none⟩ a3).cell? ⟨gx, 1, none⟩ = some (.slice A2 (dig ex.num.natAbs).length c2) ∧ (((V.setCell ⟨g, 0, none⟩ a1).setCell ⟨g, 1, none⟩ a2).setCell ⟨g, 2, none⟩ a3).cell? ⟨gx, 2, none⟩ = some (.slice D2 (dig ex.den).length d2)))
      have hb : Below wc.heap.size wc wc.drew := (Drawn.drew _).below _
      clear HPW HP1 HPN HEX1 HE3 HEG HX HY X4 Y4 KX KY KF1 hgw hgy
      refine wp_region_held_drew (S := fun V => V.cell? ⟨gx, 0, none⟩ = some (.bool (decide (ex.num < 0))) ∧ V.cell? ⟨gx, 1, none⟩ = some (.slice A2 (dig ex.num.natAbs).length c2) ∧ V.cell? ⟨gx, 2, none⟩ = some (.slice D2 (dig ex.den).length d2)) (by kernel_rfl) (KF.out _ hb) (fun hHeld => ?_)
      refine wpAnyH_take (i := 0) (v := ?v0) (by simp only [List.getElem?_toArray, List.getElem?_cons_zero]; rfl) (by kernel_rfl) (by kernel_rfl) (by kernel_rfl) (by exact fun _ _ _ h => h) (Or.inl ⟨by rfl, ?hy0⟩) (by assumption) ?rest0
      case hy0 => (intro w0 hSw; (try dsimp only at hSw); go_simp; (first | done | (with_reducible rfl)))
      simp only [Act.put, List.setIfInBounds_toArray, List.set_cons_zero, List.set_cons_succ]
      refine wpAnyH_take (i := 1) (v := ?v1) (by simp only [List.getElem?_toArray, List.getElem?_cons_succ, List.getElem?_cons_zero]; rfl) (by kernel_rfl) (by kernel_rfl) (by kernel_rfl) (by exact fun _ _ _ h => h) (Or.inl ⟨by rfl, ?hy1⟩) (by assumption) ?rest1
      case hy1 => (intro w0 hSw; (try dsimp only at hSw); go_simp; (first | done | (with_reducible rfl)))
      simp only [Act.put, List.setIfInBounds_toArray, List.set_cons_zero, List.set_cons_succ]
      refine wpAnyH_take (i := 2) (v := ?v2) (by simp only [List.getElem?_toArray, List.getElem?_cons_succ, List.getElem?_cons_zero]; rfl) (by kernel_rfl) (by kernel_rfl) (by kernel_rfl) (by exact fun _ _ _ h => h) (Or.inl ⟨by rfl, ?hy2⟩) (by assumption) ?rest2
      case hy2 => (intro w0 hSw; (try dsimp only at hSw); go_simp; (first | done | (with_reducible rfl)))
      simp only [Act.put, List.setIfInBounds_toArray, List.set_cons_zero, List.set_cons_succ]
      refine wpAnyH_ready (rs := [3, 5]) (by kernel_rfl) (by simp) ?_
      refine AllReadyH.cons (by simp only [List.getElem?_toArray, List.getElem?_cons_succ, List.getElem?_cons_zero]; rfl) (fun K hK => ?_) (AllReadyH.cons (by simp only [List.getElem?_toArray, List.getElem?_cons_succ, List.getElem?_cons_zero]; rfl) (fun K hK => ?_) AllReadyH.nil)
      · go_simp
        go_at_call 15
        refine (HM1.out _ hb).mono ?_
        rintro e w7 ⟨A7, c7, D7, d7, rfl, r7, hk⟩
        replace hb := hb.trans (hk.mono hb.size)
        clear hk
        go_simp
        refine hK.out _ _ (KF.out _ hb) (fun hHeld => ?_)
        clear hK K
        (try simp only [Act.put, List.setIfInBounds_toArray, List.set_cons_zero, List.set_cons_succ])
        refine wpAnyH_ready (rs := [4, 5]) (by kernel_rfl) (by simp) ?_
        refine AllReadyH.cons (by simp only [List.getElem?_toArray, List.getElem?_cons_succ, List.getElem?_cons_zero]; rfl) (fun K hK => ?_) (AllReadyH.cons (by simp only [List.getElem?_toArray, List.getElem?_cons_succ, List.getElem?_cons_zero]; rfl) (fun K hK => ?_) AllReadyH.nil)
        · go_simp
          go_at_call 15
          refine (HM2.out _ A7 c7 D7 d7 r7 hb).mono ?_
          rintro e w8 ⟨A8, c8, D8, d8, rfl, r8, hk⟩
          replace hb := hb.trans (hk.mono hb.size)
          clear hk
          go_simp
          refine hK.out _ _ (KF.out _ hb) (fun hHeld => ?_)
          clear hK K
          (try simp only [Act.put, List.setIfInBounds_toArray, List.set_cons_zero, List.set_cons_succ])
          refine wpAnyH_ready (rs := [5]) (by kernel_rfl) (by simp) ?_
          refine AllReadyH.cons (by simp only [List.getElem?_toArray, List.getElem?_cons_succ, List.getElem?_cons_zero]; rfl) (fun K hK => ?_) AllReadyH.nil
          have kk := Blk.new (w8) 33 #[.bool false, .slice none 0 0, .slice none 0 0]
          have hg9 := hb.size
          have hal := (Below.refl (w8).heap.size (w8)).alloc (Nat.le_refl _) (.cells #[.bool false, .slice none 0 0, .slice none 0 0] 33)
          go_simp
          refine hK.out _ _ (KF.out _ (hb.trans (hal.mono hb.size))) (fun hHeld => ?_)
          clear hK K
          (try simp only [Act.put, List.setIfInBounds_toArray, List.set_cons_zero, List.set_cons_succ])
          replace hb := hb.trans (hal.mono hb.size)
          replace r8 := RM.old r8 hal
          clear hal
          generalize (w8).alloc (.cells #[.bool false, .slice none 0 0, .slice none 0 0] 33) = W5 at *
          generalize (w8).heap.size = g9 at *
          refine wpAnyH_ready (rs := [6]) (by kernel_rfl) (by simp) ?_
          refine AllReadyH.cons (by simp only [List.getElem?_toArray, List.getElem?_cons_succ, List.getElem?_cons_zero]; rfl) (fun K hK => ?_) AllReadyH.nil
          have u0 := kk.cell 0; have u1 := kk.cell 1; have u2 := kk.cell 2
          have f0 := kk.frozen 0; have f1 := kk.frozen 1; have f2 := kk.frozen 2
          have z0 := kk.lt
          go_simp
          refine hK.out _ _ (KS.out _ hb _ hg9 _ _ _) (fun hHeld => ?_)
          clear hK K
          (try simp only [Act.put, List.setIfInBounds_toArray, List.set_cons_zero, List.set_cons_succ])
          refine wpAnyH_done (by kernel_rfl) ?_ _
          clear u0 u1 u2 f0 f1 f2 z0
          have HCU := Lib.hid (CubeP.mk kk hb hg9 r8)
          clear kk hb hHeld r8
          go_wp2_with fail
          go_meet
          exact HCU.out
        · have kk := Blk.new (w7) 33 #[.bool false, .slice none 0 0, .slice none 0 0]
          have hg9 := hb.size
          have hal := (Below.refl (w7).heap.size (w7)).alloc (Nat.le_refl _) (.cells #[.bool false, .slice none 0 0, .slice none 0 0] 33)
          go_simp
          refine hK.out _ _ (KF.out _ (hb.trans (hal.mono hb.size))) (fun hHeld => ?_)
          clear hK K
          (try simp only [Act.put, List.setIfInBounds_toArray, List.set_cons_zero, List.set_cons_succ])
          replace hb := hb.trans (hal.mono hb.size)
          replace r7 := RM.old r7 hal
          clear hal
          generalize (w7).alloc (.cells #[.bool false, .slice none 0 0, .slice none 0 0] 33) = W5 at *
          generalize (w7).heap.size = g9 at *
          refine wpAnyH_ready (rs := [4]) (by kernel_rfl) (by simp) ?_
          refine AllReadyH.cons (by simp only [List.getElem?_toArray, List.getElem?_cons_succ, List.getElem?_cons_zero]; rfl) (fun K hK => ?_) AllReadyH.nil
          go_simp
          go_at_call 15
          refine (HM2.out _ A7 c7 D7 d7 r7 hb).mono ?_
          rintro e w8 ⟨A8, c8, D8, d8, rfl, r8, hk⟩
          replace hb := hb.trans (hk.mono hb.size)
          replace kk := Blk.old kk hk
          clear hk
          go_simp
          refine hK.out _ _ (KF.out _ hb) (fun hHeld => ?_)
          clear hK K
          (try simp only [Act.put, List.setIfInBounds_toArray, List.set_cons_zero, List.set_cons_succ])
          refine wpAnyH_ready (rs := [6]) (by kernel_rfl) (by simp) ?_
          refine AllReadyH.cons (by simp only [List.getElem?_toArray, List.getElem?_cons_succ, List.getElem?_cons_zero]; rfl) (fun K hK => ?_) AllReadyH.nil
          have u0 := kk.cell 0; have u1 := kk.cell 1; have u2 := kk.cell 2
          have f0 := kk.frozen 0; have f1 := kk.frozen 1; have f2 := kk.frozen 2
          have z0 := kk.lt
          go_simp
          refine hK.out _ _ (KS.out _ hb _ hg9 _ _ _) (fun hHeld => ?_)
          clear hK K
          (try simp only [Act.put, List.setIfInBounds_toArray, List.set_cons_zero, List.set_cons_succ])
          refine wpAnyH_done (by kernel_rfl) ?_ _
          clear u0 u1 u2 f0 f1 f2 z0
          have HCU := Lib.hid (CubeP.mk kk hb hg9 r8)
          clear kk hb hHeld r8
          go_wp2_with fail
          go_meet
          exact HCU.out
      · have kk : Blk (wc.alloc (.cells #[.bool false, .slice none 0 0, .slice none 0 0] 33)).drew wc.heap.size 33 #[.bool false, .slice none 0 0, .slice none 0 0] := Blk.new wc 33 #[.bool false, .slice none 0 0, .slice none 0 0]
        have hg9 : wc.heap.size ≤ wc.heap.size := Nat.le_refl _
        have hal := (Below.refl wc.heap.size wc).alloc (Nat.le_refl _) (.cells #[.bool false, .slice none 0 0, .slice none 0 0] 33)
        replace hb := hal.trans (((Drawn.drew (wc.alloc (.cells #[.bool false, .slice none 0 0, .slice none 0 0] 33))).below _).mono hal.size)
        go_simp
        refine hK.out _ _ (KF.out _ hb) (fun hHeld => ?_)
        clear hK K
        (try simp only [Act.put, List.setIfInBounds_toArray, List.set_cons_zero, List.set_cons_succ])
        clear hal
        generalize (wc.alloc (.cells #[.bool false, .slice none 0 0, .slice none 0 0] 33)).drew = W5 at *
        refine wpAnyH_ready (rs := [3]) (by kernel_rfl) (by simp) ?_
        refine AllReadyH.cons (by simp only [List.getElem?_toArray, List.getElem?_cons_succ, List.getElem?_cons_zero]; rfl) (fun K hK => ?_) AllReadyH.nil
        go_simp
        go_at_call 15
        refine (HM1.out _ hb).mono ?_
        rintro e w7 ⟨A7, c7, D7, d7, rfl, r7, hk⟩
        replace hb := hb.trans (hk.mono hb.size)
        replace kk := Blk.old kk hk
        clear hk
        go_simp
        refine hK.out _ _ (KF.out _ hb) (fun hHeld => ?_)
        clear hK K
        (try simp only [Act.put, List.setIfInBounds_toArray, List.set_cons_zero, List.set_cons_succ])
        refine wpAnyH_ready (rs := [4]) (by kernel_rfl) (by simp) ?_
        refine AllReadyH.cons (by simp only [List.getElem?_toArray, List.getElem?_cons_succ, List.getElem?_cons_zero]; rfl) (fun K hK => ?_) AllReadyH.nil
        go_simp
        go_at_call 15
        refine (HM2.out _ A7 c7 D7 d7 r7 hb).mono ?_
        rintro e w8 ⟨A8, c8, D8, d8, rfl, r8, hk⟩
        replace hb := hb.trans (hk.mono hb.size)
        replace kk := Blk.old kk hk
        clear hk
        go_simp
        refine hK.out _ _ (KF.out _ hb) (fun hHeld => ?_)
        clear hK K
        (try simp only [Act.put, List.setIfInBounds_toArray, List.set_cons_zero, List.set_cons_succ])
        refine wpAnyH_ready (rs := [6]) (by kernel_rfl) (by simp) ?_
        refine AllReadyH.cons (by simp only [List.getElem?_toArray, List.getElem?_cons_succ, List.getElem?_cons_zero]; rfl) (fun K hK => ?_) AllReadyH.nil
        have u0 := kk.cell 0; have u1 := kk.cell 1; have u2 := kk.cell 2
        have f0 := kk.frozen 0; have f1 := kk.frozen 1; have f2 := kk.frozen 2
        have z0 := kk.lt
        go_simp
        refine hK.out _ _ (KS.out _ hb _ hg9 _ _ _) (fun hHeld => ?_)
        clear hK K
        (try simp only [Act.put, List.setIfInBounds_toArray, List.set_cons_zero, List.set_cons_succ])
        refine wpAnyH_done (by kernel_rfl) ?_ _
        clear u0 u1 u2 f0 f1 f2 z0
        have HCU := Lib.hid (CubeP.mk kk hb hg9 r8)
        clear kk hb hHeld r8
        go_wp2_with fail
        go_meet
        exact HCU.out
    case rest =>
      obtain ⟨g9, A9, c9, D9, d9, rfl, hbx, hrs⟩ := hcut
      have hbW := hbc.trans (hbx.mono hbc.size)
      clear hbc hbx HM1 HM2 X4 Y4 KX KY KF HX HY
      have HRS := Lib.hid hrs
      have HW := Lib.hid (fun (V : World) (hV : Below wc.heap.size wc V) => HW1.out V (hbW.trans (hV.mono hbW.size)))
      have hone : ival (decide ((1 : Int) < 0)) (dig (Int.natAbs 1)) = 1 := ival_dig 1
      have hio := fun (V : World) => IOf_any 1 (by omega) (by omega) V
      unfold IntRes at hio
      have hcn := fun (V : World) (A3 : Option Addr) (c3 : Nat) (hb : NatB V A3 (dig (Int.natAbs 1))) (hc : (dig (Int.natAbs 1)).length ≤ c3) => Const_any (decide ((1 : Int) < 0)) A3 c3 V.heap.size (dig (Int.natAbs 1)) V (Nat.le_refl _) (natB_nin hb hc) (Nat.le_trans (dig_len_pw (k := 1) (show Int.natAbs 1 < pw 1 by decide)) (by omega))
      rw [hone] at hcn
      have KF := Lib.hid (fun (V : World) (hV : Below wc.heap.size wc V) => (⟨(HRS.out.bx.old hV).cell 0, (HRS.out.bx.old hV).cell 1, (HRS.out.bx.old hV).cell 2⟩ :
        V.cell? ⟨g9, 0, none⟩ = some (.bool (decide (cu.num < 0))) ∧ V.cell? ⟨g9, 1, none⟩ = some (.slice A9 (dig cu.num.natAbs).length c9) ∧ V.cell? ⟨g9, 2, none⟩ = some (.slice D9 (dig cu.den).length d9)))
      have g3 : pw (6 + 1) ^ 3 = pw 21 := by rw [pw_eq, ← Nat.pow_mul]; rfl
      have R1 := Lib.hid (fun (V : World) (hV : Below wc.heap.size wc V) => HPW.out V (HW.out V hV))
      have R2 := Lib.hid (fun (V : World) (b : Nat) (A : Option Addr) (c : Nat) (r : List PT) (hV : Below wc.heap.size wc V) (hg : PGood V b (.slice A r.length c) r (cf (powL (vF (ps.map PT.tm)) 3)) (8 ^ 3) (((3 : Nat) : Int) * 9) (pw (6 + 1) ^ 3)) => show Calls Tryz.prog 9 #[.slice A r.length c, .slice Av vn cv] V (RatM cu V) by
        rw [← HE3.out r hg.cf]
        exact HEG.out V (HW.out V hV) A c r (8 ^ 3) (((3 : Nat) : Int) * 9) (pw (6 + 1) ^ 3) (hg.pin (by omega) (by rw [g3]; exact pw_lt (by decide))) (by omega) (by omega) (by rw [g3]; exact Nat.le_refl _))
      have R3 := Lib.hid (fun (V : World) (A : Option Addr) (c : Nat) (D : Option Addr) (d : Nat) (hV : Below wc.heap.size wc V) (r : RM V cu A c D d) => same_yes cu V A c D d A9 c9 D9 d9 r (HRS.out.rm.old hV) HCR.out)
      have R4 := Lib.hid (fun (V : World) (hV : Below wc.heap.size wc V) => HPN.out V (HW.out V hV))
      have R7 := Lib.hid (fun (V : World) (b b' : Nat) (A A' : Option Addr) (c c' : Nat) (r r' : List PT) (hg : PGood V b (.slice A r.length c) r (cf oneL) 1 0 1) (hg' : PGood V b' (.slice A' r'.length c') r' (cf [(1, (0, 0, 0, 0))]) 1 0 (Int.natAbs 1)) => show Calls Tryz.prog 17 #[.slice A r.length c, .slice A' r'.length c'] V (TrueP V) from
        (SSame_any A A' c c' V.heap.size 1 1 0 0 1 (Int.natAbs 1) r r' V (Nat.le_refl _) (hg.pin (by omega) (pw_one (k := 600) (by decide))) (hg'.pin (by omega) (pw_one (k := 600) (by decide))) (by omega) (by omega) (pw_one (k := 600) (by decide)) (pw_one (k := 600) (by decide)) (by omega) (by omega)).mono fun e w' h => h.yes fun m => (hg.cf m).trans (hg'.cf m).symm)
      have R8 := Lib.hid (fun (V : World) (hV : Below wc.heap.size wc V) => HP1.out V (HW.out V hV))
      have R9 := Lib.hid (fun (V : World) (b : Nat) (A : Option Addr) (c : Nat) (r : List PT) (hV : Below wc.heap.size wc V) (hg : PGood V b (.slice A r.length c) r (cf (powL (vF (ps.map PT.tm)) 1)) (8 ^ 1) (((1 : Nat) : Int) * 9) (pw (6 + 1) ^ 1)) => show Calls Tryz.prog 17 #[.slice A r.length c, .slice A0 ps.length c0] V (TrueP V) from
        (SSame_any A A0 c c0 V.heap.size (8 ^ 1) 8 (((1 : Nat) : Int) * 9) 9 (pw (6 + 1) ^ 1) (pw (6 + 1)) r ps V (Nat.le_refl _) (hg.pin (by omega) (by rw [Nat.pow_one]; exact pw_lt (by decide))) ((I0.out.below ((HW.out V hV).mono hB)).more (Nat.le_trans hB (HW.out V hV).size)) (by omega) (by omega) (by rw [Nat.pow_one]; exact pw_lt (by decide)) (pw_lt (by decide)) (by omega) (by omega)).mono fun e w' h => h.yes (HEX1.out r hg.cf))
      generalize hd : dig (Int.natAbs 1) = dd at *
      generalize hn : decide ((1 : Int) < 0) = nn at *
      have R5 := Lib.hid hio
      have R6 := Lib.hid hcn
      have HFN := Lib.hid (fun (V : World) (hV : Below wc.heap.size wc V) => hb1.trans ((HW.out V hV).mono hB))
      unfold RatM at R2
      unfold TrueP at R3 R7 R9
      unfold rvl at R2 R3
      have hb : Below wc.heap.size wc wc.drew := (Drawn.drew _).below _
      have hb0 : Below wc.heap.size wc wc := Below.refl _ _
      clear hio hcn hd hn hone g3 hrs HPW HPN HP1 HEX1 HE3 HEG HW hbW HCR
      unfold PRes at R6
      go_upto_region 9 with (fail)
      go_region_held3 (fun V => V.cell? ⟨g9, 0, none⟩ = some (.bool (decide (cu.num < 0))) ∧ V.cell? ⟨g9, 1, none⟩ = some (.slice A9 (dig cu.num.natAbs).length c9) ∧ V.cell? ⟨g9, 2, none⟩ = some (.slice D9 (dig cu.den).length d9))
        (first | (with_reducible exact KF.out _ hb) | (with_reducible exact KF.out _ hb0))
        (first
          | (go_at_call 16; (with_reducible refine (R1.out _ hb).mono ?_); rintro e w5 ⟨A5, c5, p5, rfl, g5, hk⟩; replace hb := hb.trans (hk.mono hb.size))
          | (go_at_call 9; (with_reducible refine (R2.out _ _ _ _ _ hb g5).mono ?_); rintro e w6 ⟨A6, c6, D6, d6, rfl, r6, hk⟩; replace hb := hb.trans (hk.mono hb.size); clear g5)
          | (go_at_call 10; (with_reducible refine (R3.out _ _ _ _ _ hb r6).mono ?_); rintro e w7 ⟨rfl, hk⟩; replace hb := hb.trans (hk.mono hb.size); clear r6)
          | (go_at_call 16; (with_reducible refine (R4.out _ hb).mono ?_); rintro e w8 ⟨A8, c8, p8, rfl, g8, hk⟩; replace hb := hb.trans (hk.mono hb.size))
          | (go_at_call 19; (with_reducible refine (R5.out _).mono ?_); rintro e w10 ⟨A10, c10, rfl, l10, n10, hk⟩; replace hb := hb.trans (hk.mono hb.size); replace g8 := PGood.old g8 hk)
          | (go_at_call 18; (with_reducible refine (R6.out _ _ _ n10 l10).mono ?_); rintro e w11 ⟨A11, c11, p11, rfl, g11, hk⟩; replace hb := hb.trans (hk.mono hb.size); replace g8 := PGood.old g8 hk; clear n10 l10)
          | (go_at_call 17; (with_reducible refine (R7.out _ _ _ _ _ _ _ _ _ g8 g11).mono ?_); rintro e w12 ⟨rfl, hk⟩; replace hb := hb.trans (hk.mono hb.size); clear g8 g11)
          | (go_at_call 16; (with_reducible refine (R8.out _ hb).mono ?_); rintro e w13 ⟨A13, c13, p13, rfl, g13, hk⟩; replace hb := hb.trans (hk.mono hb.size))
          | (go_at_call 17; (with_reducible refine (R9.out _ _ _ _ _ hb g13).mono ?_); rintro e w14 ⟨rfl, hk⟩; replace hb := hb.trans (hk.mono hb.size); clear g13))
      have HF := Lib.hid (HFN.out _ hb)
      go_wp2_with fail
      go_ret
      exact ⟨rfl, HF.out⟩
end Go.Proofs.YtpbapoanjkekmaaGreat
