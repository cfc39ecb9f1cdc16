/- The walk of SparseSum. -/
import Derived.IntWalk
import Derived.Deep.DeepCutAuto
import Derived.Test.YtpbapoanjkekmaaH9
import Derived.Test.YtpbapoanjkekmaaL4
namespace Go.Proofs.Ytpbapoanjkekmaa
open Go.RowKit
attribute [local go_sem ↓] Go.wp_at_zero Go.wp_at_succ

/-- behind 'a, b := Coef(p, ..), Coef(q, ..)': two boxes of integers, the term as it was -/
def SumCut (Z : World) (b14 : Nat) (fa fb m0 m1 m2 m3 : Int) (pn : Bool) (pA : Option Addr) (pd : List Nat) (pc : Nat) (v15 v16 : Value) (wx : World) : Prop :=
  ∃ b15 b16 A20 c20 A21 c21, v15 = .pointer (some ⟨b15, 0, none⟩) ∧ v16 = .pointer (some ⟨b16, 0, none⟩) ∧ Below Z.heap.size Z wx ∧
    Blk wx b14 35 #[.bool pn, .slice pA pd.length pc, .int .i64 m0, .int .i64 m1, .int .i64 m2, .int .i64 m3] ∧
    Blk wx b15 31 #[.bool (decide (fa < 0)), .slice A20 (dig fa.natAbs).length c20] ∧ Blk wx b16 31 #[.bool (decide (fb < 0)), .slice A21 (dig fb.natAbs).length c21] ∧
    NatB wx A20 (dig fa.natAbs) ∧ NatB wx A21 (dig fb.natAbs) ∧ (dig fa.natAbs).length ≤ c20 ∧ (dig fb.natAbs).length ≤ c21
theorem bcell {W w1 : World} (hb : Below W.heap.size W w1) : (∀ b o, b < W.heap.size → w1.cell? ⟨b, o, none⟩ = W.cell? ⟨b, o, none⟩) ∧ (∀ b o, b < W.heap.size → w1.frozen? ⟨b, o, none⟩ = W.frozen? ⟨b, o, none⟩) :=
  ⟨fun b o h => hb.cell (p := ⟨b, o, none⟩) h, fun b o h => hb.frozen (p := ⟨b, o, none⟩) h⟩
/-- what the walk through 'a, b := ..' keeps -/
def SumS (Z : World) (b : Nat) (cs : Array Value) (w' : World) : Prop := Below Z.heap.size Z w' ∧ Blk w' b 35 cs
section
variable {Z V w' : World} {b g : Nat} {cs : Array Value} {R : Prop}
theorem SumS.pick (h : SumS Z b cs V ∧ R) : SumS Z b cs V := h.1
theorem SumS.bel (h : SumS Z b cs V) : Below Z.heap.size Z V := h.1
theorem SumS.dr (h : SumS Z b cs V) : SumS Z b cs V.drew := ⟨h.1.trans (((Drawn.drew V).below V.heap.size).mono h.1.size), h.2⟩
theorem Blk.dr {t : TypeId} (h : Blk V g t cs) : Blk V.drew g t cs := h
theorem SumS.al (h : SumS Z b cs V) (o : Obj) : SumS Z b cs (V.alloc o) := ⟨h.1.alloc h.1.size o, h.2.alloc o⟩
theorem SumS.st (h : SumS Z b cs V) (hg : Z.heap.size ≤ g) (hn : b ≠ g) (i : Nat) (u : Value) : SumS Z b cs (V.setCell ⟨g, i, none⟩ u) := ⟨h.1.setCell (p := ⟨g, i, none⟩) hg u, h.2.far (p := ⟨g, i, none⟩) hn u⟩
theorem SumS.ca (h : SumS Z b cs V) (hb : Below V.heap.size V w') : SumS Z b cs w' := ⟨h.1.trans (hb.mono h.1.size), h.2.old hb⟩
theorem SumS.full {pn pa : Value} {m0 m1 m2 m3 : Int} (h : SumS Z b #[pn, pa, .int .i64 m0, .int .i64 m1, .int .i64 m2, .int .i64 m3] V) : SumS Z b #[pn, pa, .int .i64 m0, .int .i64 m1, .int .i64 m2, .int .i64 m3] V ∧ V.cell? ⟨b, 2, none⟩ = some (.int .i64 m0) ∧ V.cell? ⟨b, 3, none⟩ = some (.int .i64 m1) ∧ V.cell? ⟨b, 4, none⟩ = some (.int .i64 m2) ∧ V.cell? ⟨b, 5, none⟩ = some (.int .i64 m3) :=
  ⟨h, h.2.cell 2, h.2.cell 3, h.2.cell 4, h.2.cell 5⟩
theorem bx_new {t : TypeId} (h : g = V.heap.size) : Blk (V.alloc (.cells cs t)) g t cs := by rw [h]; exact Blk.new V t cs
theorem bx_two {t : TypeId} {x y u v : Value} (h : Blk V g t #[x, y]) : Blk ((V.setCell ⟨g, 0, none⟩ u).setCell ⟨g, 1, none⟩ v) g t #[u, v] := by
  have := (h.set_ 0 u).set_ 1 v
  simpa using this
theorem bx_far {t : TypeId} {g' : Nat} {u v : Value} (h : Blk V g t cs) (hn : g ≠ g') : Blk ((V.setCell ⟨g', 0, none⟩ u).setCell ⟨g', 1, none⟩ v) g t cs := (h.far (p := ⟨g', 0, none⟩) hn u).far (p := ⟨g', 1, none⟩) hn v
theorem nb_far {A : Option Addr} {ds : List Nat} {u v : Value} (h : NatB V A ds) (hb : Blk V g 31 cs) : NatB ((V.setCell ⟨g, 0, none⟩ u).setCell ⟨g, 1, none⟩ v) A ds :=
  h.keep fun g' cs' k => bx_far k (k.ne_t hb (by decide))
theorem nb_al {A : Option Addr} {ds : List Nat} (h : NatB V A ds) (o : Obj) : NatB (V.alloc o) A ds := h.keep fun _ _ k => k.alloc o
section
variable {m0 m1 m2 m3 fa fb : Int} {pn : Bool} {pA A20 A21 : Option Addr} {pd : List Nat} {pc c20 c21 g' : Nat} {u v u' v' : Value}
theorem cut_1a (q : SumS Z b cs V) (KB : ∀ W, SumS Z b cs W → Blk W b 35 #[.bool pn, .slice pA pd.length pc, .int .i64 m0, .int .i64 m1, .int .i64 m2, .int .i64 m3]) (y0 : NatB V A20 (dig fa.natAbs)) (y1 : NatB V A21 (dig fb.natAbs)) (x0 : (dig fa.natAbs).length ≤ c20) (x1 : (dig fb.natAbs).length ≤ c21) :
    SumCut Z b fa fb m0 m1 m2 m3 pn pA pd pc (.pointer (some ⟨V.heap.size, 0, none⟩)) (.pointer (some ⟨V.heap.size + 1, 0, none⟩)) ((V.alloc (.cells #[.bool (decide (fa < 0)), .slice A20 (dig fa.natAbs).length c20] 31)).alloc (.cells #[.bool (decide (fb < 0)), .slice A21 (dig fb.natAbs).length c21] 31)) :=
  ⟨_, _, A20, c20, A21, c21, rfl, rfl, ((q.al _).al _).bel, KB _ ((q.al _).al _), (Blk.new _ _ _).alloc _, bx_new (by simp), nb_al (nb_al y0 _) _, nb_al (nb_al y1 _) _, x0, x1⟩
theorem cut_1b (q : SumS Z b cs V) (KB : ∀ W, SumS Z b cs W → Blk W b 35 #[.bool pn, .slice pA pd.length pc, .int .i64 m0, .int .i64 m1, .int .i64 m2, .int .i64 m3]) (y0 : NatB V A20 (dig fa.natAbs)) (y1 : NatB V A21 (dig fb.natAbs)) (x0 : (dig fa.natAbs).length ≤ c20) (x1 : (dig fb.natAbs).length ≤ c21) :
    SumCut Z b fa fb m0 m1 m2 m3 pn pA pd pc (.pointer (some ⟨V.heap.size + 1, 0, none⟩)) (.pointer (some ⟨V.heap.size, 0, none⟩)) ((V.alloc (.cells #[.bool (decide (fb < 0)), .slice A21 (dig fb.natAbs).length c21] 31)).alloc (.cells #[.bool (decide (fa < 0)), .slice A20 (dig fa.natAbs).length c20] 31)) :=
  ⟨_, _, A20, c20, A21, c21, rfl, rfl, ((q.al _).al _).bel, KB _ ((q.al _).al _), bx_new (by simp), (Blk.new _ _ _).alloc _, nb_al (nb_al y0 _) _, nb_al (nb_al y1 _) _, x0, x1⟩
theorem cut_2a (q : SumS Z b cs V) (KB : ∀ W, SumS Z b cs W → Blk W b 35 #[.bool pn, .slice pA pd.length pc, .int .i64 m0, .int .i64 m1, .int .i64 m2, .int .i64 m3]) (y0 : NatB V A20 (dig fa.natAbs)) (y1 : NatB V A21 (dig fb.natAbs)) (x0 : (dig fa.natAbs).length ≤ c20) (x1 : (dig fb.natAbs).length ≤ c21)
    (p : Blk V g 31 #[u, v]) (h1 : Z.heap.size ≤ g) (h2 : b ≠ g) :
    SumCut Z b fa fb m0 m1 m2 m3 pn pA pd pc (.pointer (some ⟨g, 0, none⟩)) (.pointer (some ⟨V.heap.size, 0, none⟩)) (((V.setCell ⟨g, 0, none⟩ (.bool (decide (fa < 0)))).setCell ⟨g, 1, none⟩ (.slice A20 (dig fa.natAbs).length c20)).alloc (.cells #[.bool (decide (fb < 0)), .slice A21 (dig fb.natAbs).length c21] 31)) :=
  ⟨_, _, A20, c20, A21, c21, rfl, rfl, (((q.st h1 h2 _ _).st h1 h2 _ _).al _).bel, KB _ (((q.st h1 h2 _ _).st h1 h2 _ _).al _), (bx_two p).alloc _, bx_new (by simp), nb_al (nb_far y0 p) _, nb_al (nb_far y1 p) _, x0, x1⟩
theorem cut_2b (q : SumS Z b cs V) (KB : ∀ W, SumS Z b cs W → Blk W b 35 #[.bool pn, .slice pA pd.length pc, .int .i64 m0, .int .i64 m1, .int .i64 m2, .int .i64 m3]) (y0 : NatB V A20 (dig fa.natAbs)) (y1 : NatB V A21 (dig fb.natAbs)) (x0 : (dig fa.natAbs).length ≤ c20) (x1 : (dig fb.natAbs).length ≤ c21)
    (p : Blk V g 31 #[u, v]) (h1 : Z.heap.size ≤ g) (h2 : b ≠ g) :
    SumCut Z b fa fb m0 m1 m2 m3 pn pA pd pc (.pointer (some ⟨V.heap.size, 0, none⟩)) (.pointer (some ⟨g, 0, none⟩)) (((V.setCell ⟨g, 0, none⟩ (.bool (decide (fb < 0)))).setCell ⟨g, 1, none⟩ (.slice A21 (dig fb.natAbs).length c21)).alloc (.cells #[.bool (decide (fa < 0)), .slice A20 (dig fa.natAbs).length c20] 31)) :=
  ⟨_, _, A20, c20, A21, c21, rfl, rfl, (((q.st h1 h2 _ _).st h1 h2 _ _).al _).bel, KB _ (((q.st h1 h2 _ _).st h1 h2 _ _).al _), bx_new (by simp), (bx_two p).alloc _, nb_al (nb_far y0 p) _, nb_al (nb_far y1 p) _, x0, x1⟩
theorem cut_3 (q : SumS Z b cs V) (KB : ∀ W, SumS Z b cs W → Blk W b 35 #[.bool pn, .slice pA pd.length pc, .int .i64 m0, .int .i64 m1, .int .i64 m2, .int .i64 m3]) (y0 : NatB V A20 (dig fa.natAbs)) (y1 : NatB V A21 (dig fb.natAbs)) (x0 : (dig fa.natAbs).length ≤ c20) (x1 : (dig fb.natAbs).length ≤ c21)
    (p : Blk V g 31 #[u, v]) (p' : Blk V g' 31 #[u', v']) (h1 : Z.heap.size ≤ g) (h2 : b ≠ g) (h1' : Z.heap.size ≤ g') (h2' : b ≠ g') (hn : g ≠ g') :
    SumCut Z b fa fb m0 m1 m2 m3 pn pA pd pc (.pointer (some ⟨g, 0, none⟩)) (.pointer (some ⟨g', 0, none⟩)) ((((V.setCell ⟨g, 0, none⟩ (.bool (decide (fa < 0)))).setCell ⟨g, 1, none⟩ (.slice A20 (dig fa.natAbs).length c20)).setCell ⟨g', 0, none⟩ (.bool (decide (fb < 0)))).setCell ⟨g', 1, none⟩ (.slice A21 (dig fb.natAbs).length c21)) :=
  ⟨_, _, A20, c20, A21, c21, rfl, rfl, ((((q.st h1 h2 _ _).st h1 h2 _ _).st h1' h2' _ _).st h1' h2' _ _).bel, KB _ ((((q.st h1 h2 _ _).st h1 h2 _ _).st h1' h2' _ _).st h1' h2' _ _), bx_far (bx_two p) hn, bx_two (bx_far p' hn.symm), nb_far (nb_far y0 p) (bx_far p' hn.symm), nb_far (nb_far y1 p) (bx_far p' hn.symm), x0, x1⟩
end
end
/-- an integer handed back, and nothing of Z turned -/
def IntZ (Z : World) (z : Int) (W : World) (e : Ending) (w' : World) : Prop :=
  ∃ A c, e = .returned (.agg #[.bool (decide (z < 0)), .slice A (dig z.natAbs).length c]) ∧ (dig z.natAbs).length ≤ c ∧ NatB w' A (dig z.natAbs) ∧ Below W.heap.size W w' ∧ Below Z.heap.size Z w'
theorem IntRes.z {Z : World} {z : Int} {W : World} {e : Ending} {w' : World} (hW : Below Z.heap.size Z W) (h : IntRes z W e w') : IntZ Z z W e w' := by
  obtain ⟨A, c, h1, h2, h3, h4⟩ := h
  exact ⟨A, c, h1, h2, h3, h4, hW.trans (h4.mono hW.size)⟩

set_option maxHeartbeats 8000000 in
set_option maxRecDepth 100000 in
theorem Sum_any (A0 A1 As : Option Addr) (c0 c1 cs : Nat) (ps qs : List PT) (ng : Bool) (ds : List Nat) (w : World) (h0 : PolyIn w w.heap.size A0 ps) (h1 : PolyIn w w.heap.size A1 qs) (hs : NatIn w w.heap.size As cs ds)
    (v0 : ∀ p ∈ ps, WfM p.m) (v1 : ∀ p ∈ qs, WfM p.m) :
    Calls Try.prog 7 #[.slice A0 ps.length c0, .slice A1 qs.length c1, .agg #[.bool ng, .slice As ds.length cs]] w (TrueRes w) := by
  have HFT := Lib.hid (fun W => fit_any W)
  have H0 := Lib.hid h0; have H1 := Lib.hid h1; have HS := Lib.hid hs
  have V0 := Lib.hid v0; have V1 := Lib.hid v1
  have HX := Lib.hid (Blk.new w 31 #[.bool ng, .slice As ds.length cs])
  have hbx := (Below.refl w.heap.size w).alloc (Nat.le_refl _) (.cells #[.bool ng, .slice As ds.length cs] 31)
  have HBX := Lib.hid hbx
  clear h0 h1 v0 v1 hs hbx
  go_enter Try.func7, Try.ntmps7
  go_wp2_with fail
  refine (HFT.out _).mono ?_
  rintro e w1 ⟨rfl, hb1'⟩
  have hb1 := HBX.out.trans (hb1'.mono HBX.out.size)
  have kx1 := HX.out.old hb1'
  have HF0 := Lib.hid (few_any A0 c0 w.heap.size ps w1 (H0.out.below hb1))
  have HF1 := Lib.hid (few_any A1 c1 w.heap.size qs w1 (H1.out.below hb1))
  clear HFT hb1' HX HBX
  have x0 : w1.cell? ⟨w.heap.size, 0, none⟩ = some (.bool ng) := kx1.cell 0
  have x1 : w1.cell? ⟨w.heap.size, 1, none⟩ = some (.slice As ds.length cs) := kx1.cell 1
  go_wp2_with fail
  refine HF0.out.mono ?_
  rintro e w1' ⟨b0, rfl, hf0, rfl⟩
  cases b0 with
  | false =>
    clear hf0
    go_wp2_with fail
    go_ret
    exact ⟨rfl, hb1⟩
  | true =>
    have F0 := Lib.hid (hf0 rfl)
    clear hf0
    go_wp2_with fail
    refine HF1.out.mono ?_
    rintro e w1' ⟨b1, rfl, hf1, rfl⟩
    cases b1 with
    | false =>
      clear hf1
      go_wp2_with fail
      go_ret
      exact ⟨rfl, hb1⟩
    | true =>
      have I0 := Lib.hid ((few_pin H0.out V0.out F0.out (by omega) (by omega)).below hb1)
      have I1 := Lib.hid ((few_pin H1.out V1.out (hf1 rfl) (by omega) (by omega)).below hb1)
      clear hf1 HF0 HF1 H0 H1 F0 V0 V1
      have hB := hb1.size
      by_cases h6 : (6 : Int) < (ds.length : Int)
      · go_wp2_with fail
        go_ret
        exact ⟨rfl, hb1⟩
      · have g1 : pw (6 + 1) < Big := pw_lt (by decide)
        have g4 : pw (6 + 1) + pw (6 + 1) < Big := Nat.lt_of_le_of_lt (pw_dbl 7) (pw_lt (by decide))
        have hSI := HS.out.below hb1
        have hvl : (ival ng ds).natAbs * pw (6 + 1) ≤ pw 13 := by
          rw [ival_abs, show pw 13 = pw 6 * pw 7 from (pw_mul 6 7).symm]
          exact Nat.mul_le_mul_right _ (Nat.le_of_lt (val_pw HS.out.dg (by omega)))
        have HVL := Lib.hid hvl
        have HCA := Lib.hid (fun (W : World) (hW : Below w1.heap.size w1 W) => SAdd_any A0 A1 c0 c1 w.heap.size 8 8 9 (pw (6 + 1)) (pw (6 + 1)) ps qs W (Nat.le_trans hB hW.size) (I0.out.below (hW.mono hB)) (I1.out.below (hW.mono hB)) (by omega) g4)
        have HCB := Lib.hid (fun (W : World) (hW : Below w1.heap.size w1 W) => SSub_any A0 A1 c0 c1 w.heap.size 8 8 9 (pw (6 + 1)) (pw (6 + 1)) ps qs W (Nat.le_trans hB hW.size) (I0.out.below (hW.mono hB)) (I1.out.below (hW.mono hB)) (by omega) g4 (by omega))
        have HCC := Lib.hid (fun (W : World) (hW : Below w1.heap.size w1 W) => Scale_any A0 c0 w.heap.size 8 9 (pw (6 + 1)) ps ng As cs ds W (Nat.le_trans hB hW.size) (I0.out.below (hW.mono hB)) (hSI.below (hW.mono hB)) (by omega) g1 (by omega))
        have HCD := Lib.hid (fun (W : World) (hW : Below w1.heap.size w1 W) => SNeg_any A0 c0 w.heap.size 8 9 (pw (6 + 1)) ps W (Nat.le_trans hB hW.size) (I0.out.below (hW.mono hB)) (by omega) g1)
        unfold PRes at HCA HCB HCC HCD
        have HSI := Lib.hid hSI
        have lx := kx1.lt
        have G1 := Lib.hid g1; have G4 := Lib.hid g4
        have hd1 : Below w1.heap.size w1 w1.drew := (Drawn.drew _).below _
        clear g1 g4 hSI hvl HS
        generalize hM7 : pw (6 + 1) = M7 at *
        have HM7 := Lib.hid hM7
        clear hM7
        generalize hMz : (ival ng ds).natAbs * M7 = Mz at *
        have HMz := Lib.hid hMz
        clear hMz
        go_wp2_with fail
        go_region_held3 (fun w' => w'.cell? ⟨w.heap.size, 0, none⟩ = some (.bool ng) ∧ w'.cell? ⟨w.heap.size, 1, none⟩ = some (.slice As ds.length cs))
          (first | exact ⟨x0, x1⟩ | exact ⟨(k2.cell lx).trans x0, (k2.cell lx).trans x1⟩ | exact ⟨(k3.cell lx).trans x0, (k3.cell lx).trans x1⟩ | exact ⟨(k4.cell lx).trans x0, (k4.cell lx).trans x1⟩ | exact ⟨(k5.cell lx).trans x0, (k5.cell lx).trans x1⟩)
          (first | (go_at_call 14; refine (HCA.out _ hd1).mono ?_; rintro e w2 ⟨A2, c2, r2, rfl, hg2, hb2⟩; have k2 := hd1.trans hb2) | (go_at_call 35; refine (HCB.out _ k2).mono ?_; rintro e w3 ⟨A3, c3, r3, rfl, hg3, hb3⟩; have k3 := k2.trans (hb3.mono k2.size)) | (go_at_call 36; refine (HCC.out _ k3).mono ?_; rintro e w4 ⟨A4, c4, r4, rfl, hg4, hb4⟩; have k4 := k3.trans (hb4.mono k3.size)) | (go_at_call 30; refine (HCD.out _ k4).mono ?_; rintro e w5 ⟨A5, c5, r5, rfl, hg5, hb5⟩; have k5 := k4.trans (hb5.mono k4.size)))
        have j2 : Below w2.heap.size w2 w5 := (hb3.trans (hb4.mono hb3.size)).trans (hb5.mono (Nat.le_trans hb3.size hb4.size))
        have j3 : Below w3.heap.size w3 w5 := hb4.trans (hb5.mono hb4.size)
        have hMz : Mz < Big := Nat.lt_of_le_of_lt HVL.out (pw_lt (by decide))
        have i0 := (I0.out.below (k5.mono hB)).more (Nat.le_trans hB k5.size)
        have i1 := (I1.out.below (k5.mono hB)).more (Nat.le_trans hB k5.size)
        have i2 := (hg2.old j2).pin (by omega) G4.out
        have i3 := (hg3.old j3).pin (by omega) G4.out
        have i4 := (hg4.old hb5).pin (by omega) hMz
        have i5 := hg5.pin (by omega) G1.out
        have K2 := Lib.hid (fun (W : World) (hW : Below w5.heap.size w5 W) => Can_any A2 c2 w5.heap.size r2 W hW.size (i2.pin.below hW) hg2.can hg2.own.cn (by have := i2.len; omega) i2.dl)
        have K3 := Lib.hid (fun (W : World) (hW : Below w5.heap.size w5 W) => Can_any A3 c3 w5.heap.size r3 W hW.size (i3.pin.below hW) hg3.can hg3.own.cn (by have := i3.len; omega) i3.dl)
        have K4 := Lib.hid (fun (W : World) (hW : Below w5.heap.size w5 W) => Can_any A4 c4 w5.heap.size r4 W hW.size (i4.pin.below hW) hg4.can hg4.own.cn (by have := i4.len; omega) i4.dl)
        have K5 := Lib.hid (fun (W : World) (hW : Below w5.heap.size w5 W) => Can_any A5 c5 w5.heap.size r5 W hW.size (i5.pin.below hW) hg5.can hg5.own.cn (by have := i5.len; omega) i5.dl)
        have Q0 := Lib.hid (fun (W : World) (hW : Below w5.heap.size w5 W) (m : Mo) (hm : WfM m) => Coef_any A0 c0 w5.heap.size ps m W hW.size (i0.pin.below hW) (by have := i0.len; omega) i0.dl i0.wf hm (Nat.lt_of_le_of_lt i0.nm G1.out))
        have Q1 := Lib.hid (fun (W : World) (hW : Below w5.heap.size w5 W) (m : Mo) (hm : WfM m) => Coef_any A1 c1 w5.heap.size qs m W hW.size (i1.pin.below hW) (by have := i1.len; omega) i1.dl i1.wf hm (Nat.lt_of_le_of_lt i1.nm G1.out))
        have Q2 := Lib.hid (fun (W : World) (hW : Below w5.heap.size w5 W) (m : Mo) (hm : WfM m) => Coef_any A2 c2 w5.heap.size r2 m W hW.size (i2.pin.below hW) (by have := i2.len; omega) i2.dl i2.wf hm (Nat.lt_of_le_of_lt i2.nm G4.out))
        have Q3 := Lib.hid (fun (W : World) (hW : Below w5.heap.size w5 W) (m : Mo) (hm : WfM m) => Coef_any A3 c3 w5.heap.size r3 m W hW.size (i3.pin.below hW) (by have := i3.len; omega) i3.dl i3.wf hm (Nat.lt_of_le_of_lt i3.nm G4.out))
        have Q4 := Lib.hid (fun (W : World) (hW : Below w5.heap.size w5 W) (m : Mo) (hm : WfM m) => Coef_any A4 c4 w5.heap.size r4 m W hW.size (i4.pin.below hW) (by have := i4.len; omega) i4.dl i4.wf hm (Nat.lt_of_le_of_lt i4.nm hMz))
        have Q5 := Lib.hid (fun (W : World) (hW : Below w5.heap.size w5 W) (m : Mo) (hm : WfM m) => Coef_any A5 c5 w5.heap.size r5 m W hW.size (i5.pin.below hW) (by have := i5.len; omega) i5.dl i5.wf hm (Nat.lt_of_le_of_lt i5.nm G1.out))
        have E2 := Lib.hid hg2.cf; have E3 := Lib.hid hg3.cf; have E4 := Lib.hid hg4.cf; have E5 := Lib.hid hg5.cf
        have HI0 := Lib.hid i0; have HI1 := Lib.hid i1; have HI2 := Lib.hid i2; have HI3 := Lib.hid i3; have HI4 := Lib.hid i4; have HI5 := Lib.hid i5
        have HMB := Lib.hid hMz
        have kx5 := kx1.old k5
        clear i0 i1 i2 i3 i4 i5 hMz j2 j3 hg2 hg3 hg4 hg5 hb2 hb3 hb4 hb5 k2 k3 k4 hd1 x0 x1 HCA HCB HCC HCD
        have hr5 : Below w5.heap.size w5 w5 := Below.refl _ _
        go_wp2_with fail
        refine (K2.out _ hr5).mono ?_
        rintro e w6 ⟨rfl, n6⟩
        clear hr5
        go_wp2_with fail
        refine (K3.out _ n6).mono ?_
        rintro e w7 ⟨rfl, hb7⟩
        have n7 := n6.trans (hb7.mono n6.size)
        go_wp2_with fail
        refine (K4.out _ n7).mono ?_
        rintro e w8 ⟨rfl, hb8⟩
        have n8 := n7.trans (hb8.mono n7.size)
        go_wp2_with fail
        refine (K5.out _ n8).mono ?_
        rintro e w9 ⟨rfl, hb9⟩
        have n9 := n8.trans (hb9.mono n8.size)
        clear n6 n7 n8 hb7 hb8 hb9 K2 K3 K4 K5
        have hbz := (Below.refl w9.heap.size w9).alloc (Nat.le_refl _) (.cells #[.slice A0 ps.length c0, .slice A1 qs.length c1, .slice A2 r2.length c2, .slice A3 r3.length c3, .slice A4 r4.length c4, .slice A5 r5.length c5] 23)
        have kz := Blk.new w9 23 #[.slice A0 ps.length c0, .slice A1 qs.length c1, .slice A2 r2.length c2, .slice A3 r3.length c3, .slice A4 r4.length c4, .slice A5 r5.length c5]
        have kxz := kx5.old (n9.trans (hbz.mono n9.size))
        have nz := n9.trans (hbz.mono n9.size)
        have hfz : Below w.heap.size w (w9.alloc (.cells #[.slice A0 ps.length c0, .slice A1 qs.length c1, .slice A2 r2.length c2, .slice A3 r3.length c3, .slice A4 r4.length c4, .slice A5 r5.length c5] 23)) := hb1.trans ((k5.trans (nz.mono k5.size)).mono hB)
        clear hbz
        go_wp2_with fail
        generalize w9.alloc (.cells #[.slice A0 ps.length c0, .slice A1 qs.length c1, .slice A2 r2.length c2, .slice A3 r3.length c3, .slice A4 r4.length c4, .slice A5 r5.length c5] 23) = Z at *
        generalize w9.heap.size = bz at *
        have HWB := Lib.hid (fun (Wx : World) (hx : Below Z.heap.size Z Wx) => show Below w5.heap.size w5 Wx from nz.trans (hx.mono nz.size))
        have HSEL := Lib.hid (fun (x : Nat) (hx : x < 6) => show ∃ Ai ci li, Z.cell? ⟨bz, x, none⟩ = some (.slice Ai li.length ci) ∧ PolyIn w5 w5.heap.size Ai li ∧ (∀ p ∈ li, WfM p.m) ∧ li.length ≤ 100 by
          rcases (by omega : x = 0 ∨ x = 1 ∨ x = 2 ∨ x = 3 ∨ x = 4 ∨ x = 5) with rfl | rfl | rfl | rfl | rfl | rfl
          · exact ⟨A0, c0, ps, kz.cell 0, HI0.out.pin, HI0.out.wf, by have := HI0.out.len; omega⟩
          · exact ⟨A1, c1, qs, kz.cell 1, HI1.out.pin, HI1.out.wf, by have := HI1.out.len; omega⟩
          · exact ⟨A2, c2, r2, kz.cell 2, HI2.out.pin, HI2.out.wf, by have := HI2.out.len; omega⟩
          · exact ⟨A3, c3, r3, kz.cell 3, HI3.out.pin, HI3.out.wf, by have := HI3.out.len; omega⟩
          · exact ⟨A4, c4, r4, kz.cell 4, HI4.out.pin, HI4.out.wf, by have := HI4.out.len; omega⟩
          · exact ⟨A5, c5, r5, kz.cell 5, HI5.out.pin, HI5.out.wf, by have := HI5.out.len; omega⟩)
        have hZl : bz < Z.heap.size := kz.lt
        have KXZ := Lib.hid kxz; have HFZ := Lib.hid hfz
        clear kz kxz kx5 kx1 nz n9 hfz
        go_loopg [12, 14, 15, 16, 70, 74, 75, 76] 6 (fun gn _ _ _ _ ix _ _ _ wr' => ∃ (x : Nat), x ≤ 6 ∧ gn = 6 - x ∧ ix = .int .i64 x ∧ Below Z.heap.size Z wr')
        case atStart => exact ⟨0, by omega, rfl, rfl, Below.refl _ _⟩
        case round =>
          obtain ⟨x, hx, hgx, rfl, hbl2⟩ := hrel
          have HGXX := Lib.hid hgx; clear hgx
          by_cases hltx : x < 6
          · obtain ⟨Ai, ci, li, hcell, hpin, hwfl, hll⟩ := HSEL.out x hltx
            have cz := (hbl2.cell (p := ⟨bz, x, none⟩) hZl).trans hcell
            have x1 : (x : Int) < 6 := by omega
            have x0 : (0 : Int) ≤ (x : Int) := by omega
            have HPI := Lib.hid hpin; have HWF := Lib.hid hwfl
            generalize hln : li.length = ln at *
            have HLN := Lib.hid hln
            clear hln hcell hpin hwfl
            go_wp2_with fail
            go_loopg [14, 15, 16, 76] ln (fun gn _ _ _ ix wr' => ∃ (k : Nat), k ≤ ln ∧ gn = ln - k ∧ ix = .int .i64 k ∧ Below Z.heap.size Z wr')
            case atStart => exact ⟨0, by omega, rfl, rfl, hbl2⟩
            case round =>
              obtain ⟨k, hk, hgk, rfl, hbl3⟩ := hrel
              have HGK := Lib.hid hgk; clear hgk cz
              by_cases hltk : k < ln
              · obtain ⟨p, hp⟩ : ∃ p, li[k]? = some p := ⟨_, List.getElem?_eq_getElem (by have := HLN.out; omega)⟩
                have hpm := List.mem_of_getElem? hp
                have hwb := HWB.out _ hbl3
                obtain ⟨b, o, hAe, hbb, d0, d1, d2, d3, d4, d5⟩ := (HPI.out.below hwb).at_ hp
                subst hAe
                have k1 : (k : Int) < (ln : Int) := by omega
                have k0 : (0 : Int) ≤ (k : Int) := by omega
                have hwm : WfM (p.m.1, p.m.2.1, p.m.2.2.1, p.m.2.2.2) := HWF.out p hpm
                have hbx := (Below.refl wr.heap.size wr).alloc (Nat.le_refl _) (.cells p.cells.toArray 35)
                have k14 := Blk.new wr 35 p.cells.toArray
                have hsz3 := hbl3.size
                have hbxx := hbl3.trans (hbx.mono hsz3)
                have D0 := Lib.hid (fun (W : World) (hW : Below Z.heap.size Z W) => (Q0.out W (HWB.out _ hW) (p.m.1, p.m.2.1, p.m.2.2.1, p.m.2.2.2) hwm).mono fun _ _ h => h.z hW)
                have D1 := Lib.hid (fun (W : World) (hW : Below Z.heap.size Z W) => (Q1.out W (HWB.out _ hW) (p.m.1, p.m.2.1, p.m.2.2.1, p.m.2.2.2) hwm).mono fun _ _ h => h.z hW)
                have D2 := Lib.hid (fun (W : World) (hW : Below Z.heap.size Z W) => (Q2.out W (HWB.out _ hW) (p.m.1, p.m.2.1, p.m.2.2.1, p.m.2.2.2) hwm).mono fun _ _ h => h.z hW)
                have D3 := Lib.hid (fun (W : World) (hW : Below Z.heap.size Z W) => (Q3.out W (HWB.out _ hW) (p.m.1, p.m.2.1, p.m.2.2.1, p.m.2.2.2) hwm).mono fun _ _ h => h.z hW)
                have D4 := Lib.hid (fun (W : World) (hW : Below Z.heap.size Z W) => (Q4.out W (HWB.out _ hW) (p.m.1, p.m.2.1, p.m.2.2.1, p.m.2.2.2) hwm).mono fun _ _ h => h.z hW)
                have D5 := Lib.hid (fun (W : World) (hW : Below Z.heap.size Z W) => (Q5.out W (HWB.out _ hW) (p.m.1, p.m.2.1, p.m.2.2.1, p.m.2.2.2) hwm).mono fun _ _ h => h.z hW)
                rw [E2.out] at D2
                rw [E3.out] at D3
                rw [E4.out] at D4
                rw [E5.out] at D5
                have Z0 := Lib.hid (show (cf (ps.map PT.tm) (p.m.1, p.m.2.1, p.m.2.2.1, p.m.2.2.2)).natAbs ≤ M7 from Nat.le_trans (cf_le_nrm _ _) HI0.out.nm)
                have Z1 := Lib.hid (show (cf (qs.map PT.tm) (p.m.1, p.m.2.1, p.m.2.2.1, p.m.2.2.2)).natAbs ≤ M7 from Nat.le_trans (cf_le_nrm _ _) HI1.out.nm)
                unfold IntZ moV at D0 D1 D2 D3 D4 D5
                simp only [PT.cells] at k14 hbxx
                generalize cf (ps.map PT.tm) (p.m.1, p.m.2.1, p.m.2.2.1, p.m.2.2.2) = fa at *
                generalize cf (qs.map PT.tm) (p.m.1, p.m.2.1, p.m.2.2.1, p.m.2.2.2) = fb at *
                clear hp hpm hwm hbx hwb
                generalize p.m.1 = m0 at *
                generalize p.m.2.1 = m1 at *
                generalize p.m.2.2.1 = m2 at *
                generalize p.m.2.2.2 = m3 at *
                generalize p.ng = pn at *
                generalize p.A = pA at *
                generalize p.c = pc at *
                generalize p.ds = pd at *
                go_wp2_with fail
                generalize wr.alloc (.cells #[.bool pn, .slice pA pd.length pc, .int .i64 m0, .int .i64 m1, .int .i64 m2, .int .i64 m3] 35) = X at *
                generalize wr.heap.size = b14 at *
                have e2 : X.cell? ⟨b14, 2, none⟩ = some (.int .i64 m0) := k14.cell 2
                have e3 : X.cell? ⟨b14, 3, none⟩ = some (.int .i64 m1) := k14.cell 3
                have e4 : X.cell? ⟨b14, 4, none⟩ = some (.int .i64 m2) := k14.cell 4
                have e5 : X.cell? ⟨b14, 5, none⟩ = some (.int .i64 m3) := k14.cell 5
                have l14 := k14.lt
                have hxd : Below X.heap.size X X.drew := (Drawn.drew _).below _
                have hzd : Below Z.heap.size Z X.drew := hbxx.trans (hxd.mono hbxx.size)
                clear d0 d1 d2 d3 d4 d5 HSEL Q0 Q1 Q2 Q3 Q4 Q5
                go_cut [15, 16] (fun v15 v16 wx => SumCut Z b14 fa fb m0 m1 m2 m3 pn pA pd pc v15 v16 wx)
                case first =>
                  obtain ⟨CS, q0, KF, KB⟩ : ∃ CS, SumS Z b14 CS X.drew ∧ Hid (∀ V, SumS Z b14 CS V → SumS Z b14 CS V ∧ V.cell? ⟨b14, 2, none⟩ = some (.int .i64 m0) ∧ V.cell? ⟨b14, 3, none⟩ = some (.int .i64 m1) ∧ V.cell? ⟨b14, 4, none⟩ = some (.int .i64 m2) ∧ V.cell? ⟨b14, 5, none⟩ = some (.int .i64 m3)) ∧
                      Hid (∀ V, SumS Z b14 CS V → Blk V b14 35 #[.bool pn, .slice pA pd.length pc, .int .i64 m0, .int .i64 m1, .int .i64 m2, .int .i64 m3]) :=
                    ⟨#[.bool pn, .slice pA pd.length pc, .int .i64 m0, .int .i64 m1, .int .i64 m2, .int .i64 m3], ⟨hzd, k14⟩, Lib.hid (fun V h => SumS.full h), Lib.hid (fun V h => h.2)⟩
                  have q00 : SumS Z b14 CS X := ⟨hbxx, q0.2⟩
                  have hzx := hbxx.size
                  have hx1 : X.heap.size ≤ X.drew.heap.size := Nat.le_refl _
                  clear k14 hxd hzd hbxx
                  go_region_held3 (fun w' => SumS Z b14 CS w' ∧ w'.cell? ⟨b14, 2, none⟩ = some (.int .i64 m0) ∧ w'.cell? ⟨b14, 3, none⟩ = some (.int .i64 m1) ∧ w'.cell? ⟨b14, 4, none⟩ = some (.int .i64 m2) ∧ w'.cell? ⟨b14, 5, none⟩ = some (.int .i64 m3))
                    ((refine KF.out _ ?_; repeat (first | (with_reducible exact q21) | (with_reducible exact q20) | (with_reducible exact q0) | (with_reducible exact q00) | (with_reducible refine SumS.dr ?_) | (with_reducible refine SumS.al ?_ _) | (with_reducible refine SumS.st ?_ ?_ ?_ _ _; rotate_left; omega; omega))))
                    (first | (go_at_call 18; (with_reducible refine (D0.out _ (SumS.bel (b := b14) (cs := CS) ?_)).mono ?_); (repeat (first | (with_reducible exact q0) | (with_reducible exact q00) | (with_reducible refine SumS.dr ?_) | (with_reducible refine SumS.al ?_ _))); rintro e w20 ⟨A20, c20, rfl, x20, y20, z20, f20⟩; (have s20 := z20.size); (try simp at s20); (try (have t1 : X.heap.size < w20.heap.size := by omega)); (try (have t2 : X.heap.size + 1 < w20.heap.size := by omega)); (obtain ⟨hc20, hf20⟩ := bcell z20); (try (have p1 : Blk w20 X.heap.size 31 #[.bool false, .slice none 0 0] := Blk.old (by first | (with_reducible exact Blk.dr (Blk.new _ _ _)) | (with_reducible exact Blk.dr (Blk.alloc (Blk.new _ _ _) _))) z20)); (try (have p2 : Blk w20 (X.heap.size + 1) 31 #[.bool false, .slice none 0 0] := Blk.old (by with_reducible exact Blk.dr (bx_new (World.size_alloc _ _).symm)) z20)); (have q20 : SumS Z b14 CS w20 := SumS.ca (by repeat (first | (with_reducible exact q0) | (with_reducible exact q00) | (with_reducible refine SumS.dr ?_) | (with_reducible refine SumS.al ?_ _))) z20)) | (go_at_call 18; (with_reducible refine (D1.out _ (SumS.bel (b := b14) (cs := CS) ?_)).mono ?_); (repeat (first | (with_reducible exact q20) | (with_reducible refine SumS.al ?_ _) | (with_reducible refine SumS.st ?_ ?_ ?_ _ _; rotate_left; omega; omega))); rintro e w21 ⟨A21, c21, rfl, x21, y21, z21, f21⟩; (have s21 := z21.size); (try simp at s21); (try (have t3 : X.heap.size < w21.heap.size := by omega)); (try (have t4 : X.heap.size + 1 < w21.heap.size := by omega)); (try (have t5 : w20.heap.size < w21.heap.size := by omega)); (try (have t6 : w20.heap.size + 1 < w21.heap.size := by omega)); (obtain ⟨hc21, hf21⟩ := bcell z21); (try (have p3 : Blk w21 X.heap.size 31 #[.bool false, .slice none 0 0] := Blk.old (by first | (with_reducible exact p1) | (with_reducible exact Blk.alloc p1 _)) z21)); (try (have p4 : Blk w21 (X.heap.size + 1) 31 #[.bool false, .slice none 0 0] := Blk.old (by with_reducible exact p2) z21)); (try (have p5 : Blk w21 w20.heap.size 31 #[.bool false, .slice none 0 0] := Blk.old (by first | (with_reducible exact Blk.new _ _ _) | (with_reducible exact Blk.alloc (Blk.new _ _ _) _)) z21)); (try (have p6 : Blk w21 (w20.heap.size + 1) 31 #[.bool false, .slice none 0 0] := Blk.old (by with_reducible exact bx_new (World.size_alloc _ _).symm) z21)); (have y20' : NatB w21 A20 (dig fa.natAbs) := NatB.old (by first | (with_reducible exact y20) | (with_reducible exact nb_al y20 _) | (with_reducible exact nb_al (nb_al y20 _) _)) z21); (have q21 : SumS Z b14 CS w21 := SumS.ca (by repeat (first | (with_reducible exact q20) | (with_reducible refine SumS.al ?_ _) | (with_reducible refine SumS.st ?_ ?_ ?_ _ _; rotate_left; omega; omega))) z21)))
                  all_goals go_wp2_with fail
                  all_goals go_meet
                  all_goals clear D0 D1 D2 D3 D4 D5 hc20 hf20 hc21 hf21 HSI HI0 HI1 HI2 HI3 HI4 HI5 E2 E3 E4 E5 KXZ HFZ HPI HWF HWB I0 I1 KF
                  all_goals first | (with_reducible exact cut_1a q21 KB.out y20' y21 x20 x21) | (with_reducible exact cut_1b q21 KB.out y20' y21 x20 x21) | (with_reducible refine cut_2a q21 KB.out y20' y21 x20 x21 p5 ?_ ?_ <;> omega) | (with_reducible refine cut_2b q21 KB.out y20' y21 x20 x21 p5 ?_ ?_ <;> omega) | (with_reducible refine cut_2a q21 KB.out y20' y21 x20 x21 p3 ?_ ?_ <;> omega) | (with_reducible refine cut_2b q21 KB.out y20' y21 x20 x21 p3 ?_ ?_ <;> omega) | (with_reducible refine cut_2a q21 KB.out y20' y21 x20 x21 p4 ?_ ?_ <;> omega) | (with_reducible refine cut_2b q21 KB.out y20' y21 x20 x21 p4 ?_ ?_ <;> omega) | (with_reducible refine cut_2a q21 KB.out y20' y21 x20 x21 p6 ?_ ?_ <;> omega) | (with_reducible refine cut_2b q21 KB.out y20' y21 x20 x21 p6 ?_ ?_ <;> omega) | (with_reducible refine cut_3 q21 KB.out y20' y21 x20 x21 p3 p4 ?_ ?_ ?_ ?_ ?_ <;> omega) | (with_reducible refine cut_3 q21 KB.out y20' y21 x20 x21 p4 p3 ?_ ?_ ?_ ?_ ?_ <;> omega) | (with_reducible refine cut_3 q21 KB.out y20' y21 x20 x21 p5 p6 ?_ ?_ ?_ ?_ ?_ <;> omega) | (with_reducible refine cut_3 q21 KB.out y20' y21 x20 x21 p6 p5 ?_ ?_ ?_ ?_ ?_ <;> omega) | (with_reducible refine cut_3 q21 KB.out y20' y21 x20 x21 p3 p5 ?_ ?_ ?_ ?_ ?_ <;> omega) | (with_reducible refine cut_3 q21 KB.out y20' y21 x20 x21 p5 p3 ?_ ?_ ?_ ?_ ?_ <;> omega)
                case rest =>
                  clear k14 hbxx l14 hxd hzd D0 D1 e2 e3 e4 e5
                  obtain ⟨b15, b16, A20, c20, A21, c21, rfl, rfl, hbc, k14, k15, k16, n20, n21, x20, x21⟩ := hcut
                  have kx := KXZ.out.old hbc
                  have l14 := k14.lt; have l15 := k15.lt; have l16 := k16.lt; have lxc := kx.lt
                  have hwb := HWB.out _ hbc
                  have hB5 := Nat.le_trans hB k5.size
                  have HT := Lib.hid (fun (W : World) (hW : Below wc.heap.size wc W) => show NatIn W W.heap.size As cs ds from ((HSI.out.below (k5.mono hB)).below ((hwb.trans (hW.mono hwb.size)).mono hB5)).more (Nat.le_trans (Nat.le_trans hB5 hwb.size) hW.size))
                  have g1 : fa.natAbs < Big := Nat.lt_of_le_of_lt Z0.out G1.out
                  have g2 : fb.natAbs < Big := Nat.lt_of_le_of_lt Z1.out G1.out
                  have u1 : (dig fa.natAbs).length ≤ 600 := dig_len_big g1
                  have u2 : (dig fb.natAbs).length ≤ 600 := dig_len_big g2
                  have HZ1 := Lib.hid (show (fa + fb).natAbs < Big from Nat.lt_of_le_of_lt (Int.natAbs_add_le fa fb) (Nat.lt_of_le_of_lt (Nat.add_le_add Z0.out Z1.out) G4.out))
                  have HZ2 := Lib.hid (show (fa - fb).natAbs < Big from Nat.lt_of_le_of_lt (Int.natAbs_sub_le fa fb) (Nat.lt_of_le_of_lt (Nat.add_le_add Z0.out Z1.out) G4.out))
                  have HZ3 := Lib.hid (show (ival ng ds * fa).natAbs < Big by
                    rw [Int.natAbs_mul]
                    exact Nat.lt_of_le_of_lt (Nat.mul_le_mul_left _ Z0.out) (by rw [HMz.out]; exact HMB.out))
                  have HZ4 := Lib.hid (show (-fa).natAbs < Big by rw [Int.natAbs_neg]; exact g1)
                  have CA := Lib.hid (fun (W : World) (hW : Below wc.heap.size wc W) => IAdd_any (decide (fa < 0)) (decide (fb < 0)) A20 A21 c20 c21 W.heap.size (dig fa.natAbs) (dig fb.natAbs) W (Nat.le_refl _) (natB_nin (n20.old hW) x20) (natB_nin (n21.old hW) x21) (by omega) (by omega))
                  have CB := Lib.hid (fun (W : World) (hW : Below wc.heap.size wc W) => ISub_any (decide (fa < 0)) (decide (fb < 0)) A20 A21 c20 c21 W.heap.size (dig fa.natAbs) (dig fb.natAbs) W (Nat.le_refl _) (natB_nin (n20.old hW) x20) (natB_nin (n21.old hW) x21) (by omega) (by omega))
                  have CM := Lib.hid (fun (W : World) (hW : Below wc.heap.size wc W) => IMul_any ng (decide (fa < 0)) As A20 cs c20 W.heap.size ds (dig fa.natAbs) W (Nat.le_refl _) (HT.out W hW) (natB_nin (n20.old hW) x20) (by omega) (.inl (by omega)))
                  have CN := Lib.hid (fun (W : World) (hW : Below wc.heap.size wc W) => INeg_any (decide (fa < 0)) A20 c20 W.heap.size (dig fa.natAbs) W (Nat.le_refl _) (natB_nin (n20.old hW) x20) (by omega))
                  rw [ival_dig, ival_dig] at CA CB
                  rw [ival_dig] at CM CN
                  unfold IntRes at CA CB CM CN
                  have CS := Lib.hid (fun (W : World) (z : Int) (hz : z.natAbs < Big) (Aa Ab : Option Addr) (ca cb : Nat) (ha : NatB W Aa (dig z.natAbs)) (hb : NatB W Ab (dig z.natAbs)) (hca : (dig z.natAbs).length ≤ ca) (hcb : (dig z.natAbs).length ≤ cb) =>
                    show Calls Try.prog 17 #[.agg #[.bool (decide (z < 0)), .slice Aa (dig z.natAbs).length ca], .agg #[.bool (decide (z < 0)), .slice Ab (dig z.natAbs).length cb]] W (fun e w' => e = .returned (.bool true) ∧ Below W.heap.size W w') from
                    (Same_any (decide (z < 0)) (decide (z < 0)) Aa Ab ca cb W.heap.size (dig z.natAbs) (dig z.natAbs) W (Nat.le_refl _) (natB_nin ha hca) (natB_nin hb hcb) (Nat.le_trans (dig_len_big hz) (by omega)) (Nat.le_trans (dig_len_big hz) (by omega))).mono fun e w' h => ⟨h.1.trans (by simp), h.2⟩)
                  have KX := Lib.hid (fun (W : World) (hW : Below wc.heap.size wc W) => show W.cell? ⟨b14, 2, none⟩ = some (.int .i64 m0) ∧ W.cell? ⟨b14, 3, none⟩ = some (.int .i64 m1) ∧ W.cell? ⟨b14, 4, none⟩ = some (.int .i64 m2) ∧ W.cell? ⟨b14, 5, none⟩ = some (.int .i64 m3) ∧
                      W.cell? ⟨b15, 0, none⟩ = some (.bool (decide (fa < 0))) ∧ W.cell? ⟨b15, 1, none⟩ = some (.slice A20 (dig fa.natAbs).length c20) ∧ W.cell? ⟨b16, 0, none⟩ = some (.bool (decide (fb < 0))) ∧ W.cell? ⟨b16, 1, none⟩ = some (.slice A21 (dig fb.natAbs).length c21) ∧
                      W.cell? ⟨w.heap.size, 0, none⟩ = some (.bool ng) ∧ W.cell? ⟨w.heap.size, 1, none⟩ = some (.slice As ds.length cs) from
                    ⟨(hW.cell (p := ⟨b14, 2, none⟩) l14).trans (k14.cell 2), (hW.cell (p := ⟨b14, 3, none⟩) l14).trans (k14.cell 3), (hW.cell (p := ⟨b14, 4, none⟩) l14).trans (k14.cell 4), (hW.cell (p := ⟨b14, 5, none⟩) l14).trans (k14.cell 5),
                      (hW.cell (p := ⟨b15, 0, none⟩) l15).trans (k15.cell 0), (hW.cell (p := ⟨b15, 1, none⟩) l15).trans (k15.cell 1), (hW.cell (p := ⟨b16, 0, none⟩) l16).trans (k16.cell 0), (hW.cell (p := ⟨b16, 1, none⟩) l16).trans (k16.cell 1),
                      (hW.cell (p := ⟨w.heap.size, 0, none⟩) lxc).trans (kx.cell 0), (hW.cell (p := ⟨w.heap.size, 1, none⟩) lxc).trans (kx.cell 1)⟩)
                  generalize fa + fb = z1 at *
                  generalize fa - fb = z2 at *
                  generalize ival ng ds * fa = z3 at *
                  generalize -fa = z4 at *
                  have hd : Below wc.heap.size wc wc.drew := (Drawn.drew _).below _
                  have fd : Below Z.heap.size Z wc.drew := hbc.trans (hd.mono hbc.size)
                  clear k14 k15 k16 kx l14 l15 l16 lxc n20 n21 x20 x21 g1 g2 u1 u2 hwb hB5 HT hbc
                  go_wp2_with fail
                  go_region_held3 (fun w' => w'.cell? ⟨b14, 2, none⟩ = some (.int .i64 m0) ∧ w'.cell? ⟨b14, 3, none⟩ = some (.int .i64 m1) ∧ w'.cell? ⟨b14, 4, none⟩ = some (.int .i64 m2) ∧ w'.cell? ⟨b14, 5, none⟩ = some (.int .i64 m3) ∧
                      w'.cell? ⟨b15, 0, none⟩ = some (.bool (decide (fa < 0))) ∧ w'.cell? ⟨b15, 1, none⟩ = some (.slice A20 (dig fa.natAbs).length c20) ∧ w'.cell? ⟨b16, 0, none⟩ = some (.bool (decide (fb < 0))) ∧ w'.cell? ⟨b16, 1, none⟩ = some (.slice A21 (dig fb.natAbs).length c21) ∧
                      w'.cell? ⟨w.heap.size, 0, none⟩ = some (.bool ng) ∧ w'.cell? ⟨w.heap.size, 1, none⟩ = some (.slice As ds.length cs))
                    (first | (with_reducible exact KX.out _ hd) | (with_reducible exact KX.out _ g30) | (with_reducible exact KX.out _ g31) | (with_reducible exact KX.out _ g32) | (with_reducible exact KX.out _ g33) | (with_reducible exact KX.out _ g34) | (with_reducible exact KX.out _ g35) | (with_reducible exact KX.out _ g36) | (with_reducible exact KX.out _ g37) | (with_reducible exact KX.out _ g38) | (with_reducible exact KX.out _ g39) | (with_reducible exact KX.out _ g40) | (with_reducible exact KX.out _ g41))
                    (first
                      | (go_at_call 18; (with_reducible refine (D2.out _ fd).mono ?_); rintro e w30 ⟨A30, c30, rfl, x30, y30, z30, f30⟩; have g30 := hd.trans (z30.mono hd.size))
                      | (go_at_call 37; (with_reducible refine (CA.out _ g30).mono ?_); rintro e w31 ⟨A31, c31, rfl, x31, y31, z31⟩; have g31 := g30.trans (z31.mono g30.size); have f31 := f30.trans (z31.mono f30.size); have y30' := y30.old z31)
                      | (go_at_call 17; (with_reducible refine (CS.out _ _ HZ1.out _ _ _ _ y30' y31 x30 x31).mono ?_); rintro e w32 ⟨rfl, z32⟩; have g32 := g31.trans (z32.mono g31.size); have f32 := f31.trans (z32.mono f31.size); clear y30' y31)
                      | (go_at_call 18; (with_reducible refine (D3.out _ f32).mono ?_); rintro e w33 ⟨A33, c33, rfl, x33, y33, z33, f33⟩; have g33 := g32.trans (z33.mono g32.size))
                      | (go_at_call 38; (with_reducible refine (CB.out _ g33).mono ?_); rintro e w34 ⟨A34, c34, rfl, x34, y34, z34⟩; have g34 := g33.trans (z34.mono g33.size); have f34 := f33.trans (z34.mono f33.size); have y33' := y33.old z34)
                      | (go_at_call 17; (with_reducible refine (CS.out _ _ HZ2.out _ _ _ _ y33' y34 x33 x34).mono ?_); rintro e w35 ⟨rfl, z35⟩; have g35 := g34.trans (z35.mono g34.size); have f35 := f34.trans (z35.mono f34.size); clear y33' y34)
                      | (go_at_call 18; (with_reducible refine (D4.out _ f35).mono ?_); rintro e w36 ⟨A36, c36, rfl, x36, y36, z36, f36⟩; have g36 := g35.trans (z36.mono g35.size))
                      | (go_at_call 16; (with_reducible refine (CM.out _ g36).mono ?_); rintro e w37 ⟨A37, c37, rfl, x37, y37, z37⟩; have g37 := g36.trans (z37.mono g36.size); have f37 := f36.trans (z37.mono f36.size); have y36' := y36.old z37)
                      | (go_at_call 17; (with_reducible refine (CS.out _ _ HZ3.out _ _ _ _ y36' y37 x36 x37).mono ?_); rintro e w38 ⟨rfl, z38⟩; have g38 := g37.trans (z38.mono g37.size); have f38 := f37.trans (z38.mono f37.size); clear y36' y37)
                      | (go_at_call 18; (with_reducible refine (D5.out _ f38).mono ?_); rintro e w39 ⟨A39, c39, rfl, x39, y39, z39, f39⟩; have g39 := g38.trans (z39.mono g38.size))
                      | (go_at_call 39; (with_reducible refine (CN.out _ g39).mono ?_); rintro e w40 ⟨A40, c40, rfl, x40, y40, z40⟩; have g40 := g39.trans (z40.mono g39.size); have f40 := f39.trans (z40.mono f39.size); have y39' := y39.old z40)
                      | (go_at_call 17; (with_reducible refine (CS.out _ _ HZ4.out _ _ _ _ y39' y40 x39 x40).mono ?_); rintro e w41 ⟨rfl, z41⟩; have g41 := g40.trans (z41.mono g40.size); have f41 := f40.trans (z41.mono f40.size)))
                  go_wp2_with fail
                  go_roundg (ln - (k + 1))
                  case rel => exact ⟨k + 1, by omega, rfl, by go_num, f41⟩
                  case measure => have := HGK.out; omega
              · obtain rfl : k = ln := by omega
                go_wp2_with fail
                go_roundg (6 - (x + 1))
                case rel => exact ⟨x + 1, by omega, rfl, by go_num, hbl3⟩
                case measure => have := HGXX.out; omega
          · obtain rfl : x = 6 := by omega
            have hwb := HWB.out _ hbl2
            have kxr := KXZ.out.old hbl2
            have y0 : wr.cell? ⟨w.heap.size, 0, none⟩ = some (.bool ng) := kxr.cell 0
            have y1 : wr.cell? ⟨w.heap.size, 1, none⟩ = some (.slice As ds.length cs) := kxr.cell 1
            have lxr := kxr.lt
            have hB5 := Nat.le_trans hB k5.size
            have hBr := Nat.le_trans hB5 hwb.size
            have HT := Lib.hid (fun (W : World) (hW : Below wr.heap.size wr W) => show NatIn W W.heap.size As cs ds from ((HSI.out.below (k5.mono hB)).below ((hwb.trans (hW.mono hwb.size)).mono hB5)).more (Nat.le_trans hBr hW.size))
            have HDG := Lib.hid (show (ival ng ds).natAbs < Big by
              rw [ival_abs]
              exact Nat.lt_of_lt_of_le (val_pw HSI.out.dg (k := 6) (by omega)) (Nat.le_of_lt (pw_lt (by decide))))
            have HCN := Lib.hid (fun (W : World) (hW : Below wr.heap.size wr W) => Const_any ng As cs W.heap.size ds W (Nat.le_refl _) (HT.out W hW) (by omega))
            have HPW := Lib.hid (fun (W : World) (hW : Below wr.heap.size wr W) => Pow_zero A0 c0 w5.heap.size 8 9 M7 ps W (Nat.le_trans hwb.size hW.size) (HI0.out.below (hwb.trans (hW.mono hwb.size))) (by omega) G1.out)
            have HSC := Lib.hid (fun (W : World) (hW : Below wr.heap.size wr W) (A : Option Addr) (c : Nat) (r : List PT) (hr : PIn W W.heap.size A r 1 0 1) => Scale_any A c W.heap.size 1 0 1 r ng As cs ds W (Nat.le_refl _) hr (HT.out W hW) (by omega) (pw_one (k := 600) (by decide)) (by omega))
            have HSS := Lib.hid (fun (W : World) (A A' : Option Addr) (c c' : Nat) (r r' : List PT) (hr : PIn W W.heap.size A r 1 0 (ival ng ds).natAbs) (hr' : PIn W W.heap.size A' r' 1 0 ((ival ng ds).natAbs * 1)) (he : ∀ m, cf (r.map PT.tm) m = cf (r'.map PT.tm) m) => (SSame_any A A' c c' W.heap.size 1 1 0 0 (ival ng ds).natAbs ((ival ng ds).natAbs * 1) r r' W (Nat.le_refl _) hr hr' (by omega) (by omega) HDG.out (by rw [Nat.mul_one]; exact HDG.out) (by omega) (by omega)).mono fun e w' h => h.yes he)
            have HEQ := Lib.hid (fun m => show cf [(ival ng ds, (0, 0, 0, 0))] m = ival ng ds * cf oneL m by
              unfold oneL
              rw [cf_cons, cf_cons, cf_nil]
              split <;> simp)
            have HFN := Lib.hid (HFZ.out.trans (hbl2.mono HFZ.out.size))
            have hsf := Nat.le_trans HFZ.out.size hbl2.size
            have hdr : Below wr.heap.size wr wr.drew := (Drawn.drew _).below _
            unfold PRes at HCN HPW HSC
            have HDG1 := Lib.hid (show (ival ng ds).natAbs * 1 < Big by rw [Nat.mul_one]; exact HDG.out)
            generalize hzn : (ival ng ds).natAbs = zn at *
            generalize hzi : ival ng ds = zi at *
            clear hzn hzi HSEL Q0 Q1 Q2 Q3 Q4 Q5 E2 E3 E4 E5 HI0 HI1 HI2 HI3 HI4 HI5
            go_wp2_with fail
            go_region_held3 (fun w' => w'.cell? ⟨w.heap.size, 0, none⟩ = some (.bool ng) ∧ w'.cell? ⟨w.heap.size, 1, none⟩ = some (.slice As ds.length cs))
              (first | exact ⟨y0, y1⟩ | exact ⟨(m10.cell lxr).trans y0, (m10.cell lxr).trans y1⟩ | exact ⟨(m11.cell lxr).trans y0, (m11.cell lxr).trans y1⟩ | exact ⟨(m12.cell lxr).trans y0, (m12.cell lxr).trans y1⟩ | exact ⟨(m13.cell lxr).trans y0, (m13.cell lxr).trans y1⟩)
              (first | (go_at_call 33; refine (HCN.out _ hdr).mono ?_; rintro e w10 ⟨A10, c10, r10, rfl, hg10, hb10⟩; have m10 := hdr.trans hb10) | (go_at_call 40; refine (HPW.out _ m10).mono ?_; rintro e w11 ⟨A11, c11, r11, rfl, hg11, hb11⟩; have m11 := m10.trans (hb11.mono m10.size)) | (go_at_call 36; refine (HSC.out _ m11 _ _ _ (hg11.pin (Int.le_of_lt (of_decide_eq_true rfl)) (pw_one (k := 600) (of_decide_eq_true rfl)))).mono ?_; rintro e w12 ⟨A12, c12, r12, rfl, hg12, hb12⟩; have m12 := m11.trans (hb12.mono m11.size)) | (go_at_call 13; have e12 := fun m => (hg10.cf m).trans ((HEQ.out m).trans ((congrArg (zi * ·) (hg11.cf m).symm).trans (hg12.cf m).symm)); have p10 := (hg10.old (hb11.trans (hb12.mono hb11.size))).pin (Int.le_of_lt (of_decide_eq_true rfl)) HDG.out; have p12 := hg12.pin (Int.le_of_lt (of_decide_eq_true rfl)) HDG1.out; refine (HSS.out _ _ _ _ _ _ _ p10 p12 e12).mono ?_; rintro e w13 ⟨rfl, hb13⟩; have m13 := m12.trans (hb13.mono m12.size)))
            go_wp2_with fail
            go_ret
            exact ⟨rfl, HFN.out.trans (m13.mono hsf)⟩
end Go.Proofs.Ytpbapoanjkekmaa
