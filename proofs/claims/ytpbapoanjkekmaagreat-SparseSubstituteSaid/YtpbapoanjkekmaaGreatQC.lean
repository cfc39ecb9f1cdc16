/- The walk of SparseRename. -/
import Derived.IntWalk
import Derived.Test.YtpbapoanjkekmaaGreatZR
import Derived.Test.YtpbapoanjkekmaaGreatQB
import Derived.Test.YtpbapoanjkekmaaGreatPL
namespace Go.Proofs.YtpbapoanjkekmaaGreat
open Go.RowKit
attribute [local go_sem ↓] Go.wp_at_zero Go.wp_at_succ

theorem Tryz.infoRat : (Tryz.prog.info? 33).map (fun i => (i.zero, i.size, i.bytes)) = some (some (.agg #[.bool false, .slice none 0 0, .slice none 0 0]), 3, 56) := by kernel_rfl
def qz : QT := { ng := false, ds := [], A := none, c := 0, es := [], D := none, cd := 0 }
/-- the cells of a point of four coordinates -/
def cells4 (y0 y1 y2 y3 : QT) : Array Value := ((y0.cells ++ y1.cells ++ y2.cells ++ y3.cells)).toArray
theorem Tryz.make_rat4 (w : World) : (Instr.makeSlice 24 (.int .i64 4) (.int .i64 4)).run Tryz.prog w = .ok (.slice (some ⟨w.heap.size, 0, none⟩) 4 4) (w.alloc (.cells (cells4 qz qz qz qz) 33)) := by
  obtain ⟨i0, hi0, hz0, hz1, hz2⟩ := info_parts Tryz.infoRat
  have hr := run_make (P := Tryz.prog) w 24 33 i0 _ Tryz.underlying24 hi0 hz0 .i64 .i64 4 4 (by omega) (by omega) (by rw [hz2]; omega) (by omega)
  simp only [hz1, Value.cells] at hr
  have e : madeCells #[Value.bool false, .slice none 0 0, .slice none 0 0] ((4 : Int).toNat * 3) = cells4 qz qz qz qz := by
    unfold madeCells cells4
    rw [show (4 : Int).toNat * 3 = 12 from rfl]
    apply Array.ext'
    rw [Array.toList_map, Array.toList_range]
    rfl
  rw [e] at hr
  exact hr
theorem inner_any (l : Int) (w : World) : Calls Tryz.prog 21 #[.int .i64 l] w fun e w' => e = .returned (.bool (decide (1 ≤ l) && decide (l ≤ 4))) ∧ w = w' := by
  by_cases h1 : 1 ≤ l
  · by_cases h2 : l ≤ 4
    · go_enter Tryz.func21, Tryz.ntmps21
      go_wp2
      go_ret
      exact ⟨by simp [h1, h2], rfl⟩
    · go_enter Tryz.func21, Tryz.ntmps21
      go_wp2
      go_ret
      exact ⟨by rw [decide_eq_false (show ¬ l ≤ 4 by omega)]; rfl, rfl⟩
  · go_enter Tryz.func21, Tryz.ntmps21
    go_wp2
    go_ret
    exact ⟨by rw [decide_eq_false (show ¬ (1 : Int) ≤ l by omega)]; rfl, rfl⟩
/-- four coordinates, by number -/
def pick4 (y0 y1 y2 y3 : QT) : Nat → QT
  | 0 => y0
  | 1 => y1
  | 2 => y2
  | _ => y3
theorem NatE.set1 {w V : World} {A : Option Addr} {c : Nat} {ds : List Nat} (h : NatE w V A c ds) {g : Nat} {cs : Array Value} (hk : Blk V g 33 cs) (hg : w.heap.size ≤ g) (o : Nat) (u : Value) : NatE w (V.setCell ⟨g, o, none⟩ u) A c ds := by
  rcases h with h | ⟨h1, h2, h3⟩
  · exact .inl (h.below ((Below.refl w.heap.size V).setCell (p := ⟨g, o, none⟩) hg u))
  · exact .inr ⟨h1, h2, h3.far hk (by decide) o u⟩
/-- a coordinate's digits -/
def QE (w V : World) (y : QT) : Prop := NatE w V y.A y.c y.ds ∧ NatE w V y.D y.cd y.es
theorem QE.old {w V V' : World} {y : QT} (h : QE w V y) (hw : Below w.heap.size w V) (hb : Below V.heap.size V V') : QE w V' y := ⟨h.1.old hw hb, h.2.old hw hb⟩
abbrev put3 (V : World) (g i : Nat) (y : QT) : World := ((V.setCell ⟨g, i * 3, none⟩ (.bool y.ng)).setCell ⟨g, i * 3 + 1, none⟩ (.slice y.A y.ds.length y.c)).setCell ⟨g, i * 3 + 2, none⟩ (.slice y.D y.es.length y.cd)
theorem QE.put {w V : World} {y z : QT} (h : QE w V y) {g i : Nat} {cs : Array Value} (hk : Blk V g 33 cs) (hg : w.heap.size ≤ g) : QE w (put3 V g i z) y :=
  ⟨((h.1.set1 hk hg _ _).set1 (hk.set_ _ _) hg _ _).set1 ((hk.set_ _ _).set_ _ _) hg _ _, ((h.2.set1 hk hg _ _).set1 (hk.set_ _ _) hg _ _).set1 ((hk.set_ _ _).set_ _ _) hg _ _⟩
/-- the point that is being filled -/
structure B4 (w V : World) (g : Nat) (y0 y1 y2 y3 : QT) : Prop where
  bel : Below w.heap.size w V
  ge : w.heap.size ≤ g
  bx : Blk V g 33 (cells4 y0 y1 y2 y3)
  e0 : QE w V y0
  e1 : QE w V y1
  e2 : QE w V y2
  e3 : QE w V y3
theorem B4.old {w V V' : World} {g : Nat} {y0 y1 y2 y3 : QT} (h : B4 w V g y0 y1 y2 y3) (hb : Below V.heap.size V V') : B4 w V' g y0 y1 y2 y3 :=
  ⟨h.bel.trans (hb.mono h.bel.size), h.ge, h.bx.old hb, h.e0.old h.bel hb, h.e1.old h.bel hb, h.e2.old h.bel hb, h.e3.old h.bel hb⟩
theorem B4.qe {w V : World} {g : Nat} {y0 y1 y2 y3 : QT} (h : B4 w V g y0 y1 y2 y3) (i : Nat) : QE w V (pick4 y0 y1 y2 y3 i) := by
  match i with
  | 0 => exact h.e0
  | 1 => exact h.e1
  | 2 => exact h.e2
  | _ + 3 => exact h.e3
theorem B4.cells {w V : World} {g : Nat} {y0 y1 y2 y3 : QT} (h : B4 w V g y0 y1 y2 y3) {i : Nat} (hi : i < 4) :
    V.cell? ⟨g, i * 3, none⟩ = some (.bool (pick4 y0 y1 y2 y3 i).ng) ∧ V.cell? ⟨g, i * 3 + 1, none⟩ = some (.slice (pick4 y0 y1 y2 y3 i).A (pick4 y0 y1 y2 y3 i).ds.length (pick4 y0 y1 y2 y3 i).c) ∧ V.cell? ⟨g, i * 3 + 2, none⟩ = some (.slice (pick4 y0 y1 y2 y3 i).D (pick4 y0 y1 y2 y3 i).es.length (pick4 y0 y1 y2 y3 i).cd) := by
  rcases four hi with rfl | rfl | rfl | rfl
  · exact ⟨h.bx.cell 0, h.bx.cell 1, h.bx.cell 2⟩
  · exact ⟨h.bx.cell 3, h.bx.cell 4, h.bx.cell 5⟩
  · exact ⟨h.bx.cell 6, h.bx.cell 7, h.bx.cell 8⟩
  · exact ⟨h.bx.cell 9, h.bx.cell 10, h.bx.cell 11⟩
/-- coordinate i set -/
def put4 (y0 y1 y2 y3 z : QT) (i : Nat) (j : Nat) : QT := if j = i then z else pick4 y0 y1 y2 y3 j
theorem B4.put {w V : World} {g : Nat} {y0 y1 y2 y3 z : QT} (h : B4 w V g y0 y1 y2 y3) {i : Nat} (hi : i < 4) (hz : QE w V z) :
    B4 w (put3 V g i z) g (put4 y0 y1 y2 y3 z i 0) (put4 y0 y1 y2 y3 z i 1) (put4 y0 y1 y2 y3 z i 2) (put4 y0 y1 y2 y3 z i 3) := by
  have hs := ((h.bx.set_ (i * 3) (.bool z.ng)).set_ (i * 3 + 1) (.slice z.A z.ds.length z.c)).set_ (i * 3 + 2) (.slice z.D z.es.length z.cd)
  have q0 := h.e0.put (i := i) (z := z) h.bx h.ge; have q1 := h.e1.put (i := i) (z := z) h.bx h.ge; have q2 := h.e2.put (i := i) (z := z) h.bx h.ge; have q3 := h.e3.put (i := i) (z := z) h.bx h.ge
  have qz := hz.put (i := i) (z := z) h.bx h.ge
  refine ⟨((h.bel.setCell (p := ⟨g, i * 3, none⟩) h.ge _).setCell (p := ⟨g, i * 3 + 1, none⟩) h.ge _).setCell (p := ⟨g, i * 3 + 2, none⟩) h.ge _, h.ge, ?_, ?_, ?_, ?_, ?_⟩
  · rcases four hi with rfl | rfl | rfl | rfl <;> exact hs
  all_goals (unfold put4; split <;> assumption)
/-- what Eval may read -/
theorem B4.rats {w V : World} {g : Nat} {y0 y1 y2 y3 : QT} (h : B4 w V g y0 y1 y2 y3) : RatsIn V V.heap.size (some ⟨g, 0, none⟩) [y0, y1, y2, y3] := by
  refine ⟨⟨rfl, fun _ => ⟨g, 0, rfl, h.bx.lt, fun j u hu => ?_⟩⟩, fun x hx => ?_, fun x hx => ?_⟩
  · rw [Nat.zero_add, h.bx.cell j, ← hu]
    unfold cells4
    simp
  · simp only [List.mem_cons, List.not_mem_nil, or_false] at hx
    rcases hx with rfl | rfl | rfl | rfl
    · exact h.e0.1.reads h.bel
    · exact h.e1.1.reads h.bel
    · exact h.e2.1.reads h.bel
    · exact h.e3.1.reads h.bel
  · simp only [List.mem_cons, List.not_mem_nil, or_false] at hx
    rcases hx with rfl | rfl | rfl | rfl
    · exact h.e0.2.reads h.bel
    · exact h.e1.2.reads h.bel
    · exact h.e2.2.reads h.bel
    · exact h.e3.2.reads h.bel
theorem QE.zero (w V : World) : QE w V qz := ⟨.inl ⟨Reads.none_, by simp [Dig, qz], Nat.le_refl _⟩, .inl ⟨Reads.none_, by simp [Dig, qz], Nat.le_refl _⟩⟩
theorem B4.new {w : World} : B4 w (w.alloc (.cells (cells4 qz qz qz qz) 33)) w.heap.size qz qz qz qz :=
  ⟨(Below.refl w.heap.size w).alloc (Nat.le_refl _) _, Nat.le_refl _, Blk.new w _ _, QE.zero _ _, QE.zero _ _, QE.zero _ _, QE.zero _ _⟩
theorem ptL_four (y0 y1 y2 y3 : QT) {i : Nat} (h : i < 4) : ptL [y0, y1, y2, y3] i = (pick4 y0 y1 y2 y3 i).q := by
  rcases four h with rfl | rfl | rfl | rfl <;> rfl
theorem pick_put (y0 y1 y2 y3 z : QT) (i : Nat) {j : Nat} (hj : j < 4) : pick4 (put4 y0 y1 y2 y3 z i 0) (put4 y0 y1 y2 y3 z i 1) (put4 y0 y1 y2 y3 z i 2) (put4 y0 y1 y2 y3 z i 3) j = if j = i then z else pick4 y0 y1 y2 y3 j := by
  rcases four hj with rfl | rfl | rfl | rfl <;> rfl
/-- the coordinates so far: those before i are right, all are short -/
def Fill (pt : Nat → Rat) (i : Nat) (y0 y1 y2 y3 : QT) : Prop := ∀ j, j < 4 → ((pick4 y0 y1 y2 y3 j).ds.length ≤ 2 ∧ (pick4 y0 y1 y2 y3 j).es.length ≤ 2) ∧ (j < i → (pick4 y0 y1 y2 y3 j).q = pt j)
theorem Fill.put {pt : Nat → Rat} {i : Nat} {y0 y1 y2 y3 z : QT} (h : Fill pt i y0 y1 y2 y3) (h1 : z.ds.length ≤ 2) (h2 : z.es.length ≤ 2) (hq : z.q = pt i) : Fill pt (i + 1) (put4 y0 y1 y2 y3 z i 0) (put4 y0 y1 y2 y3 z i 1) (put4 y0 y1 y2 y3 z i 2) (put4 y0 y1 y2 y3 z i 3) := by
  intro j hj
  rw [pick_put _ _ _ _ _ _ hj]
  by_cases e : j = i
  · rw [if_pos e]
    exact ⟨⟨h1, h2⟩, fun _ => by rw [e]; exact hq⟩
  · rw [if_neg e]
    exact ⟨(h j hj).1, fun hl => (h j hj).2 (by omega)⟩
theorem Fill.same {pt : Nat → Rat} {i : Nat} {y0 y1 y2 y3 z : QT} (h : Fill pt i y0 y1 y2 y3) (h1 : z.ds.length ≤ 2) (h2 : z.es.length ≤ 2) : Fill pt i (put4 y0 y1 y2 y3 z i 0) (put4 y0 y1 y2 y3 z i 1) (put4 y0 y1 y2 y3 z i 2) (put4 y0 y1 y2 y3 z i 3) := by
  intro j hj
  rw [pick_put _ _ _ _ _ _ hj]
  by_cases e : j = i
  · rw [if_pos e]
    exact ⟨⟨h1, h2⟩, fun hl => by omega⟩
  · rw [if_neg e]
    exact h j hj

theorem RatM_eq {q r : Rat} (h : q = r) {w : World} {e : Ending} {w' : World} (k : RatM q w e w') : RatM r w e w' := h ▸ k
theorem Eval_p {B N M E : Nat} (A : Option Addr) (c : Nat) (r : List PT) (Av : Option Addr) (cv : Nat) (vs : List QT) (V : World) (hB : B ≤ V.heap.size) (h : PIn V B A r N (E : Int) M) (hN : N ≤ 8) (hE : E ≤ 36) (hM : M ≤ pw 7) (hv : RatsIn V B Av vs) (hP : ∀ x ∈ vs, x.ds.length ≤ 2 ∧ x.es.length ≤ 2) :
    Calls Tryz.prog 9 #[.slice A r.length c, .slice Av vs.length cv] V (RatM (evL (ptL vs) (r.map PT.tm)) V) :=
  (Eval_any A c B 8 36 (pw 7) r Av cv vs 2 8 V hB (h.bound hN (by omega) hM) hv (by omega) (pw_lt (by decide)) (by omega) hP (by omega) (by rw [← pw_eq]; exact pw_lt (by decide)) (by omega) (by omega)).mono fun _ _ h => h.m

set_option maxHeartbeats 8000000 in
set_option maxRecDepth 100000 in
theorem Rename_law (A0 Av : Option Addr) (c0 cv : Nat) (ps : List PT) (vs : List QT) (tt : Mo) (w : World) (h0 : PolyIn w w.heap.size A0 ps) (hv : RatsIn w w.heap.size Av vs) (v0 : ∀ p ∈ ps, WfM p.m) (hwt : WfM tt) :
    Calls Tryz.prog 4 #[.slice A0 ps.length c0, .agg (moV tt), .slice Av vs.length cv] w (TrueP w) := by
  have HFT := Lib.hid (fun W => fit_any W)
  have H0 := Lib.hid h0; have HV := Lib.hid hv
  have V0 := Lib.hid v0; have HWT := Lib.hid hwt
  have HMK := fun (W : World) => Tryz.make_rat4 W
  have HBX := Lib.hid ((Below.refl w.heap.size w).alloc (Nat.le_refl _) (.cells (moV tt) 44))
  have HKX := Lib.hid (Blk.new w 44 (moV tt))
  unfold moV at *
  clear h0 v0 hv hwt
  generalize hvl : vs.length = vn at *
  have HVL := Lib.hid hvl
  clear hvl
  go_enter Tryz.func4, Tryz.ntmps4
  go_wp2_with fail
  refine (HFT.out _).mono ?_
  rintro e w1 ⟨rfl, hb1'⟩
  have hb1 := HBX.out.trans (hb1'.mono HBX.out.size)
  have KX := Lib.hid (HKX.out.old hb1')
  have HF0 := Lib.hid (few_any A0 c0 w.heap.size ps w1 (H0.out.below hb1))
  have HFV := Lib.hid (values_any Av cv w.heap.size vs w1 (HV.out.below hb1))
  rw [HVL.out] at HFV
  unfold FVRes at HFV
  clear HFT hb1' HBX HKX
  go_wp2_with fail
  refine HF0.out.mono ?_
  rintro e w1' ⟨b0, rfl, hf0, rfl⟩
  cases b0 with
  | false =>
    clear hf0
    go_wp2_with fail
    go_ret
    exact ⟨rfl, hb1⟩
  | true =>
  have F0 := Lib.hid (hf0 rfl)
  clear hf0
  go_wp2_with fail
  refine HFV.out.mono ?_
  rintro e w1' ⟨b2, rfl, hf2, rfl⟩
  cases b2 with
  | false =>
    clear hf2
    go_wp2_with fail
    go_ret
    exact ⟨rfl, hb1⟩
  | true =>
  have hP := (hf2 rfl).2
  have I0 := Lib.hid ((few_pin H0.out V0.out F0.out (by omega) (by omega)).below hb1)
  have HRV := Lib.hid (HV.out.below hb1)
  have hB := hb1.size
  have g1 : pw (6 + 1) < Big := pw_lt (by decide)
  have hpt : ∀ i, RL (ptL vs i) 2 := ptL_RL (by omega) (fun x hx => ⟨(hP x hx).1, (hP x hx).2, (HV.out.nn x hx).dg, (HV.out.nd x hx).dg⟩)
  have HRN := Lib.hid (fun (W : World) (hW : Below w1.heap.size w1 W) (t : Mo) (ht : WfM t) => Rename_any A0 c0 w.heap.size 8 9 (pw (6 + 1)) ps t W (Nat.le_trans hB hW.size) (I0.out.below (hW.mono hB)) (by omega) g1 (by omega) (by omega) ht)
  unfold PRes at HRN
  have hm3 : w.heap.size < w1.heap.size := KX.out.lt
  have x0 : w1.cell? ⟨w.heap.size, 0, none⟩ = some (.int .i64 tt.1) := KX.out.cell 0
  have x1 : w1.cell? ⟨w.heap.size, 1, none⟩ = some (.int .i64 tt.2.1) := KX.out.cell 1
  have x2 : w1.cell? ⟨w.heap.size, 2, none⟩ = some (.int .i64 tt.2.2.1) := KX.out.cell 2
  have x3 : w1.cell? ⟨w.heap.size, 3, none⟩ = some (.int .i64 tt.2.2.2) := KX.out.cell 3
  have HRN1 := Lib.hid (HRN.out w1 (Below.refl _ _) tt HWT.out)
  clear hf2 HF0 HFV
  go_upto_region 6 with (go_at_call 20; refine HRN1.out.mono ?_; rintro e w5 ⟨Ar, cr, rs, rfl, hgr, hb5⟩)
  have HGR := Lib.hid hgr
  have HB5 := Lib.hid hb5
  have hRL : RL (evL (ptL vs) (rs.map PT.tm)) 400000 := (pin_RL (P := 2) (E := 36) (Z := 8) hpt (by omega) (hgr.pin (by omega) g1) (by rw [← pw_eq]; exact pw_lt (by decide))).mono (by omega)
  have HRL := Lib.hid hRL
  have HEV := Lib.hid (evL_ren (tt := tt) (p := ps.map PT.tm) (r := rs.map PT.tm) hgr.cf (ptL vs))
  have HK5 := Lib.hid (KX.out.old hb5)
  have HNW := Lib.hid (B4.new (w := w5))
  clear x0 x1 x2 x3 hgr hb5 hRL hpt HRN1 hm3
  go_upto_region 7 with (fail)
  generalize w5.alloc (.cells (cells4 qz qz qz qz) 33) = W6 at *
  go_wp2_with fail
  go_loopg [9, 10, 27] 4 (fun gn _ _ ix wr => ∃ (i : Nat) (y0 y1 y2 y3 : QT), i ≤ 4 ∧ gn = 4 - i ∧ ix = .int .i64 (i : Int) ∧ B4 w5 wr w5.heap.size y0 y1 y2 y3 ∧ Fill (fun i => ptL vs (tIx tt i)) i y0 y1 y2 y3)
  case atStart => exact ⟨0, qz, qz, qz, qz, by omega, rfl, rfl, HNW.out, fun j hj => ⟨by rcases four hj with rfl | rfl | rfl | rfl <;> exact ⟨Nat.zero_le _, Nat.zero_le _⟩, fun h => by omega⟩⟩
  case round =>
    clear HNW
    obtain ⟨i, y0, y1, y2, y3, hi, hgi, rfl, hb4, hfl⟩ := hrel
    have HG := Lib.hid hgi
    clear hgi
    by_cases hi4 : i < 4
    · have hi4' : (i : Int) < 4 := by omega
      have hi0 : (0 : Int) ≤ (i : Int) := by omega
      have c3 : wr.cell? ⟨w.heap.size, i, none⟩ = some (.int .i64 (gt tt i)) := (Blk.cell (HK5.out.old hb4.bel) i).trans (moV_at tt hi4)
      have lt3 := (HK5.out.old hb4.bel).lt
      by_cases hl : 1 ≤ gt tt i ∧ gt tt i ≤ 4
      · obtain ⟨n, hn⟩ : ∃ n : Nat, gt tt i = (n : Int) + 1 := ⟨(gt tt i - 1).toNat, by omega⟩
        have hn4 : n < 4 := by omega
        have hti : tIx tt i = n := by unfold tIx; rw [if_pos hl]; omega
        have HLV := Lib.hid (fun (V : World) => show Calls Tryz.prog 21 #[.int .i64 ((n : Int) + 1)] V (fun e w' => e = .returned (.bool true) ∧ V = w') by
          have := inner_any ((n : Int) + 1) V
          rw [decide_eq_true (show 1 ≤ (n : Int) + 1 by omega), decide_eq_true (show (n : Int) + 1 ≤ 4 by omega)] at this
          exact this)
        rw [hn] at c3
        have e1 : (n : Int) + 1 - 1 = (n : Int) := by omega
        have e2 : IntKind.i64.wrap ((n : Int) + 1 - 1) = (n : Int) := by rw [e1]; exact IntWalk.i64_in _ (by omega)
        have HTI := Lib.hid hti
        have HB4 := Lib.hid hb4; have HFL := Lib.hid hfl
        clear hl hn hti hb4 hfl
        go_upto_region 13 with (go_at_call 21; refine (HLV.out _).mono ?_; rintro e w0 ⟨rfl, rfl⟩)
        clear c3 e1 e2 HLV lt3
        obtain ⟨q0, hq0⟩ : ∃ q0 : Rat, q0 = 0 := ⟨_, rfl⟩
        have HQ0 := Lib.hid hq0
        have HO := Lib.hid (fun (W : World) => show Calls Tryz.prog 22 #[.int .i64 0] W (RatRes q0 W) by rw [hq0]; exact ROf_any 0 (by omega) (by omega) W)
        clear hq0
        unfold RatRes at HO
        go_upto_region 14 with (go_at_call 22; refine (HO.out _).mono ?_; rintro e w7 ⟨A7, c7, D7, d7, rfl, l7, m7, n7, p7, hb7⟩; have hb4 := HB4.out.old hb7; obtain ⟨u0, u1, u2⟩ := hb4.cells hi4; have f0 := hb4.bx.frozen (i * 3); have f1 := hb4.bx.frozen (i * 3 + 1); have f2 := hb4.bx.frozen (i * 3 + 2); have z0 := hb4.bx.lt)
        have hz : QE w5 w7 (qtOf q0 A7 c7 D7 d7) := ⟨NatE.nin l7 n7, NatE.nin m7 p7⟩
        have hz1 : (qtOf q0 A7 c7 D7 d7).ds.length ≤ 2 := by
          have := (RL.zero (L := 1) (by omega)).n
          rw [← HQ0.out] at this
          exact Nat.le_trans this (by omega)
        have hz2 : (qtOf q0 A7 c7 D7 d7).es.length ≤ 2 := by
          have := (RL.zero (L := 1) (by omega)).d
          rw [← HQ0.out] at this
          exact Nat.le_trans this (by omega)
        have hbz : B4 w5 (((w7.setCell ⟨w5.heap.size, i * 3, none⟩ (.bool (decide (q0.num < 0)))).setCell ⟨w5.heap.size, i * 3 + 1, none⟩ (.slice A7 (dig q0.num.natAbs).length c7)).setCell ⟨w5.heap.size, i * 3 + 2, none⟩ (.slice D7 (dig q0.den).length d7)) w5.heap.size _ _ _ _ := hb4.put (z := qtOf q0 A7 c7 D7 d7) hi4 hz
        by_cases hkv : n < vn
        · have hfz := HFL.out.same hz1 hz2
          obtain ⟨x, hx⟩ : ∃ x, vs[n]? = some x := ⟨_, List.getElem?_eq_getElem (by have := HVL.out; omega)⟩
          have hbV := HB5.out.trans (hbz.bel.mono HB5.out.size)
          have hri := HRV.out.below (hbV.mono hB)
          obtain ⟨ba, oa, rfl, hba, a0, a1, a2⟩ := hri.at_ hx
          have hxm := List.mem_of_getElem? hx
          have hqx : QE w5 (((w7.setCell ⟨w5.heap.size, i * 3, none⟩ (.bool (decide (q0.num < 0)))).setCell ⟨w5.heap.size, i * 3 + 1, none⟩ (.slice A7 (dig q0.num.natAbs).length c7)).setCell ⟨w5.heap.size, i * 3 + 2, none⟩ (.slice D7 (dig q0.den).length d7)) x := ⟨.inl ((hri.nn x hxm).more (Nat.le_trans hB HB5.out.size)), .inl ((hri.nd x hxm).more (Nat.le_trans hB HB5.out.size))⟩
          have hbx := hbz.put hi4 hqx
          have hfx := hfz.put (hP x hxm).1 (hP x hxm).2 (show x.q = ptL vs (tIx tt i) by rw [HTI.out, ptL_some hx])
          obtain ⟨t0, t1, t2⟩ := hbz.cells hi4
          have s0 := hbz.bx.frozen (i * 3); have s1 := hbz.bx.frozen (i * 3 + 1); have s2 := hbz.bx.frozen (i * 3 + 2); have s3 := hbz.bx.lt
          have HN := Lib.hid (And.intro hbx hfx)
          have hkv' : (n : Int) < (vn : Int) := by omega
          have hkv0 : (0 : Int) ≤ (n : Int) := by omega
          clear hz hz1 hz2 hbz hfz hbV hri hxm hqx hbx hfx u0 u1 u2 f0 f1 f2 z0 hb4 l7 m7 n7 p7 hb7 hba hx
          generalize ((w7.setCell ⟨w5.heap.size, i * 3, none⟩ (.bool (decide (q0.num < 0)))).setCell ⟨w5.heap.size, i * 3 + 1, none⟩ (.slice A7 (dig q0.num.natAbs).length c7)).setCell ⟨w5.heap.size, i * 3 + 2, none⟩ (.slice D7 (dig q0.den).length d7) = V at *
          go_wp2_with fail
          go_roundg (4 - (i + 1))
          case rel => exact ⟨i + 1, _, _, _, _, by omega, rfl, by go_num, HN.out.1, HN.out.2⟩
          case measure => have := HG.out; omega
        · have hkv' : ¬ (n : Int) < (vn : Int) := by omega
          have hfz := HFL.out.put hz1 hz2 (show (qtOf q0 A7 c7 D7 d7).q = ptL vs (tIx tt i) by rw [qtOf_q, HTI.out, ptL_none (by have := HVL.out; omega), HQ0.out])
          have HN := Lib.hid (And.intro hbz hfz)
          clear hz hz1 hz2 hbz hfz u0 u1 u2 f0 f1 f2 z0 hb4 l7 m7 n7 p7 hb7
          generalize ((w7.setCell ⟨w5.heap.size, i * 3, none⟩ (.bool (decide (q0.num < 0)))).setCell ⟨w5.heap.size, i * 3 + 1, none⟩ (.slice A7 (dig q0.num.natAbs).length c7)).setCell ⟨w5.heap.size, i * 3 + 2, none⟩ (.slice D7 (dig q0.den).length d7) = V at *
          go_wp2_with fail
          go_roundg (4 - (i + 1))
          case rel => exact ⟨i + 1, _, _, _, _, by omega, rfl, by go_num, HN.out.1, HN.out.2⟩
          case measure => have := HG.out; omega
      · have hti : tIx tt i = i := by unfold tIx; rw [if_neg hl]
        have HLV := Lib.hid (fun (V : World) => show Calls Tryz.prog 21 #[.int .i64 (gt tt i)] V (fun e w' => e = .returned (.bool false) ∧ V = w') by
          have := inner_any (gt tt i) V
          rw [show (decide (1 ≤ gt tt i) && decide (gt tt i ≤ 4)) = false by
            rcases (by omega : ¬ (1 ≤ gt tt i) ∨ ¬ (gt tt i ≤ 4)) with h | h <;> simp [h]] at this
          exact this)
        have HTI := Lib.hid hti
        have HB4 := Lib.hid hb4; have HFL := Lib.hid hfl
        clear hl hti hb4 hfl
        generalize gt tt i = et at *
        go_upto_region 13 with (go_at_call 21; refine (HLV.out _).mono ?_; rintro e w0 ⟨rfl, rfl⟩)
        clear c3 HLV lt3
        obtain ⟨q0, hq0⟩ : ∃ q0 : Rat, q0 = 0 := ⟨_, rfl⟩
        have HQ0 := Lib.hid hq0
        have HO := Lib.hid (fun (W : World) => show Calls Tryz.prog 22 #[.int .i64 0] W (RatRes q0 W) by rw [hq0]; exact ROf_any 0 (by omega) (by omega) W)
        clear hq0
        unfold RatRes at HO
        go_upto_region 14 with (go_at_call 22; refine (HO.out _).mono ?_; rintro e w7 ⟨A7, c7, D7, d7, rfl, l7, m7, n7, p7, hb7⟩; have hb4 := HB4.out.old hb7; obtain ⟨u0, u1, u2⟩ := hb4.cells hi4; have f0 := hb4.bx.frozen (i * 3); have f1 := hb4.bx.frozen (i * 3 + 1); have f2 := hb4.bx.frozen (i * 3 + 2); have z0 := hb4.bx.lt)
        have hz : QE w5 w7 (qtOf q0 A7 c7 D7 d7) := ⟨NatE.nin l7 n7, NatE.nin m7 p7⟩
        have hz1 : (qtOf q0 A7 c7 D7 d7).ds.length ≤ 2 := by
          have := (RL.zero (L := 1) (by omega)).n
          rw [← HQ0.out] at this
          exact Nat.le_trans this (by omega)
        have hz2 : (qtOf q0 A7 c7 D7 d7).es.length ≤ 2 := by
          have := (RL.zero (L := 1) (by omega)).d
          rw [← HQ0.out] at this
          exact Nat.le_trans this (by omega)
        have hbz : B4 w5 (((w7.setCell ⟨w5.heap.size, i * 3, none⟩ (.bool (decide (q0.num < 0)))).setCell ⟨w5.heap.size, i * 3 + 1, none⟩ (.slice A7 (dig q0.num.natAbs).length c7)).setCell ⟨w5.heap.size, i * 3 + 2, none⟩ (.slice D7 (dig q0.den).length d7)) w5.heap.size _ _ _ _ := hb4.put (z := qtOf q0 A7 c7 D7 d7) hi4 hz
        by_cases hkv : i < vn
        · have hfz := HFL.out.same hz1 hz2
          obtain ⟨x, hx⟩ : ∃ x, vs[i]? = some x := ⟨_, List.getElem?_eq_getElem (by have := HVL.out; omega)⟩
          have hbV := HB5.out.trans (hbz.bel.mono HB5.out.size)
          have hri := HRV.out.below (hbV.mono hB)
          obtain ⟨ba, oa, rfl, hba, a0, a1, a2⟩ := hri.at_ hx
          have hxm := List.mem_of_getElem? hx
          have hqx : QE w5 (((w7.setCell ⟨w5.heap.size, i * 3, none⟩ (.bool (decide (q0.num < 0)))).setCell ⟨w5.heap.size, i * 3 + 1, none⟩ (.slice A7 (dig q0.num.natAbs).length c7)).setCell ⟨w5.heap.size, i * 3 + 2, none⟩ (.slice D7 (dig q0.den).length d7)) x := ⟨.inl ((hri.nn x hxm).more (Nat.le_trans hB HB5.out.size)), .inl ((hri.nd x hxm).more (Nat.le_trans hB HB5.out.size))⟩
          have hbx := hbz.put hi4 hqx
          have hfx := hfz.put (hP x hxm).1 (hP x hxm).2 (show x.q = ptL vs (tIx tt i) by rw [HTI.out, ptL_some hx])
          obtain ⟨t0, t1, t2⟩ := hbz.cells hi4
          have s0 := hbz.bx.frozen (i * 3); have s1 := hbz.bx.frozen (i * 3 + 1); have s2 := hbz.bx.frozen (i * 3 + 2); have s3 := hbz.bx.lt
          have HN := Lib.hid (And.intro hbx hfx)
          have hkv' : (i : Int) < (vn : Int) := by omega
          have hkv0 : (0 : Int) ≤ (i : Int) := by omega
          clear hz hz1 hz2 hbz hfz hbV hri hxm hqx hbx hfx u0 u1 u2 f0 f1 f2 z0 hb4 l7 m7 n7 p7 hb7 hba hx
          generalize ((w7.setCell ⟨w5.heap.size, i * 3, none⟩ (.bool (decide (q0.num < 0)))).setCell ⟨w5.heap.size, i * 3 + 1, none⟩ (.slice A7 (dig q0.num.natAbs).length c7)).setCell ⟨w5.heap.size, i * 3 + 2, none⟩ (.slice D7 (dig q0.den).length d7) = V at *
          go_wp2_with fail
          go_roundg (4 - (i + 1))
          case rel => exact ⟨i + 1, _, _, _, _, by omega, rfl, by go_num, HN.out.1, HN.out.2⟩
          case measure => have := HG.out; omega
        · have hkv' : ¬ (i : Int) < (vn : Int) := by omega
          have hfz := HFL.out.put hz1 hz2 (show (qtOf q0 A7 c7 D7 d7).q = ptL vs (tIx tt i) by rw [qtOf_q, HTI.out, ptL_none (by have := HVL.out; omega), HQ0.out])
          have HN := Lib.hid (And.intro hbz hfz)
          clear hz hz1 hz2 hbz hfz u0 u1 u2 f0 f1 f2 z0 hb4 l7 m7 n7 p7 hb7
          generalize ((w7.setCell ⟨w5.heap.size, i * 3, none⟩ (.bool (decide (q0.num < 0)))).setCell ⟨w5.heap.size, i * 3 + 1, none⟩ (.slice A7 (dig q0.num.natAbs).length c7)).setCell ⟨w5.heap.size, i * 3 + 2, none⟩ (.slice D7 (dig q0.den).length d7) = V at *
          go_wp2_with fail
          go_roundg (4 - (i + 1))
          case rel => exact ⟨i + 1, _, _, _, _, by omega, rfl, by go_num, HN.out.1, HN.out.2⟩
          case measure => have := HG.out; omega
    · obtain rfl : i = 4 := by omega
      have hi4' : ¬ (((4 : Nat) : Int) < 4) := by omega
      have hbV := HB5.out.trans (hb4.bel.mono HB5.out.size)
      have HIN := Lib.hid (fun (V : World) (hV : Below wr.heap.size wr V) => hbV.trans (hV.mono hbV.size))
      have hg := (HGR.out.old hb4.bel).pin (by omega) g1
      have HCA := Lib.hid (Can_any Ar cr wr.heap.size rs wr (Nat.le_refl _) hg.pin HGR.out.can HGR.out.own.cn (by have := hg.len; omega) hg.dl)
      have HEA := Lib.hid (fun (V : World) (hV : Below wr.heap.size wr V) => Eval_p (E := 36) Ar cr rs Av cv vs V hV.size (hg.below hV) (by omega) (by omega) (Nat.le_refl _) (((HRV.out.below (hbV.mono hB)).more (Nat.le_trans hB hbV.size)).below hV) hP)
      have hby := hb4.rats
      have HEB := Lib.hid (fun (V : World) (hV : Below wr.heap.size wr V) => (Eval_p (E := 9) A0 c0 ps (some ⟨w5.heap.size, 0, none⟩) 4 [y0, y1, y2, y3] V hV.size (((I0.out.below (hbV.mono hB)).more (Nat.le_trans hB hbV.size)).below hV) (by omega) (by omega) (Nat.le_refl _) (hby.below hV) (fun x hx => by
        simp only [List.mem_cons, List.not_mem_nil, or_false] at hx
        rcases hx with rfl | rfl | rfl | rfl
        · exact (hfl 0 (by omega)).1
        · exact (hfl 1 (by omega)).1
        · exact (hfl 2 (by omega)).1
        · exact (hfl 3 (by omega)).1)).mono fun e w' h => RatM_eq (show evL (ptL [y0, y1, y2, y3]) (ps.map PT.tm) = evL (ptL vs) (rs.map PT.tm) by
          rw [HEV.out]
          exact evL_pt (fun j hj => by rw [ptL_four y0 y1 y2 y3 hj]; exact (hfl j hj).2 hj) _) h)
      have HR2 := Lib.hid (fun (V : World) (hV : Below wr.heap.size wr V) => HRN.out V (HIN.out V hV) (0, 0, 0, 0) ⟨⟨by decide, by decide⟩, ⟨by decide, by decide⟩, ⟨by decide, by decide⟩, ⟨by decide, by decide⟩⟩)
      have HSS := Lib.hid (fun (V : World) (b : Nat) (A : Option Addr) (c : Nat) (r : List PT) (hV : Below wr.heap.size wr V) (hg : PGood V b (.slice A r.length c) r (rnC (0, 0, 0, 0) (ps.map PT.tm)) 8 (4 * 9) (pw (6 + 1))) => show Calls Tryz.prog 17 #[.slice A r.length c, .slice A0 ps.length c0] V (TrueP V) from
        (SSame_any A A0 c c0 V.heap.size 8 8 (4 * 9) 9 (pw (6 + 1)) (pw (6 + 1)) r ps V (Nat.le_refl _) (hg.pin (by omega) g1) ((I0.out.below ((HIN.out V hV).mono hB)).more (Nat.le_trans hB (HIN.out V hV).size)) (by omega) (by omega) g1 g1 (by omega) (by omega)).mono fun e w' h => h.yes (fun m => (hg.cf m).trans (rnC_zero _ m)))
      have HSY := Lib.hid (fun (V : World) (A : Option Addr) (c : Nat) (D : Option Addr) (d : Nat) (A' : Option Addr) (c' : Nat) (D' : Option Addr) (d' : Nat) (h : RM V (evL (ptL vs) (rs.map PT.tm)) A c D d) (h' : RM V (evL (ptL vs) (rs.map PT.tm)) A' c' D' d') => same_yes _ V A c D d A' c' D' d' h h' HRL.out)
      rw [HVL.out] at HEA
      rw [show ([y0, y1, y2, y3] : List QT).length = 4 from rfl] at HEB
      unfold RatM at HEA HEB
      unfold TrueP at HSS HSY
      unfold rvl at HEA HEB HSY
      have HF1 := Lib.hid (fun (V : World) (hV : Below wr.heap.size wr V) => hb1.trans ((HIN.out V hV).mono hB))
      have hb0 : Below wr.heap.size wr wr := Below.refl _ _
      clear hg hby hbV hb4 hfl
      generalize evL (ptL vs) (rs.map PT.tm) = q at *
      go_wp2_with (first
        | (go_at_call 23; refine HCA.out.mono ?_; rintro e w8 ⟨rfl, hk⟩; have hb := hk)
        | (go_at_call 9; (with_reducible refine (HEA.out _ hb).mono ?_); rintro e w9 ⟨A9, c9, D9, d9, rfl, r9, hk⟩; replace hb := hb.trans (hk.mono hb.size))
        | (go_at_call 9; (with_reducible refine (HEB.out _ hb).mono ?_); rintro e w10 ⟨A10, c10, D10, d10, rfl, r10, hk⟩; replace hb := hb.trans (hk.mono hb.size); replace r9 := RM.old r9 hk)
        | (go_at_call 10; (with_reducible refine (HSY.out _ _ _ _ _ _ _ _ _ r9 r10).mono ?_); rintro e w11 ⟨rfl, hk⟩; replace hb := hb.trans (hk.mono hb.size); clear r9 r10)
        | (go_at_call 20; (with_reducible refine (HR2.out _ hb).mono ?_); rintro e w12 ⟨A12, c12, p12, rfl, g12, hk⟩; replace hb := hb.trans (hk.mono hb.size))
        | (go_at_call 17; (with_reducible refine (HSS.out _ _ _ _ _ hb g12).mono ?_); rintro e w13 ⟨rfl, hk⟩; replace hb := hb.trans (hk.mono hb.size); clear g12))
      have HF := Lib.hid (HF1.out _ hb)
      go_ret
      exact ⟨rfl, HF.out⟩
end Go.Proofs.YtpbapoanjkekmaaGreat
