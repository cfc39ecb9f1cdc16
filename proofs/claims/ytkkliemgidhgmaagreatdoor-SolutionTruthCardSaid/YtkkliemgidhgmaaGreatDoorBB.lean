/- Contract of solution.Build for variables. -/
import Derived.IntWalk
import Derived.Test.YtkkliemgidhgmaaGreatDoorBQ
import Derived.Test.YtkkliemgidhgmaaGreatDoorQL
import Derived.Test.YtkkliemgidhgmaaGreatDoorMD
namespace Go.Proofs.YtkkliemgidhgmaaGreatDoor
open Go.RowKit

/-- what Build returns: the matrix of terms that Cover may return, or Cover's error and nothing -/
def BuildRes (n : Nat) (rows : List (List Int × Bool)) (w : World) (e : Ending) (w' : World) : Prop :=
  ∃ (X : MX) (A : Option Addr) (c : Nat) (K : Option Addr) (kc : Nat) (L : Option Addr) (lc : Nat), e = .returned (.tuple #[.agg #[.int .i64 X.kd, .int .i64 X.rl, .int .i64 X.p.lv, .bool X.p.ng, .slice A X.p.ds.length c, .slice K X.p.ks.length kc, .slice L X.ks.length lc], .int .i64 (errOf (n : Int) rows)]) ∧
    MV w' (· < w'.heap.size) X (mcell X A c K kc L lc) ∧ (errOf (n : Int) rows ≠ 0 → X = zeroM) ∧ (errOf (n : Int) rows = 0 → ∃ ts, X = orM (varsT n) ts ∧ ValidP n rows ∧ CoverOk n rows ts) ∧ Below w.heap.size w w'
theorem BuildRes.ok {n : Nat} {rows : List (List Int × Bool)} {w w' : World} {ts : List (List Int)} {L : Option Addr} {lc : Nat} (he : errOf (n : Int) rows = 0) (hv : ValidP n rows) (hc : CoverOk n rows ts) (hm : MV w' (· < w'.heap.size) (orM (varsT n) ts) (mcell (orM (varsT n) ts) none 0 none 0 L lc)) (hb : Below w.heap.size w w') :
    BuildRes n rows w (.returned (.tuple #[.agg #[.int .i64 4, .int .i64 0, .int .i64 0, .bool false, .slice none 0 0, .slice none 0 0, .slice L ts.length lc], .int .i64 0])) w' := by
  refine ⟨orM (varsT n) ts, none, 0, none, 0, L, lc, ?_, hm, fun h => absurd he h, fun _ => ⟨ts, rfl, hv, hc⟩, hb⟩
  rw [show (orM (varsT n) ts).ks.length = ts.length by unfold orM; simp [MX.ks], he]
  rfl
theorem BuildRes.err {n : Nat} {rows : List (List Int × Bool)} {w w' : World} (he : errOf (n : Int) rows ≠ 0) (hb : Below w.heap.size w w') :
    BuildRes n rows w (.returned (.tuple #[.agg #[.int .i64 0, .int .i64 0, .int .i64 0, .bool false, .slice none 0 0, .slice none 0 0, .slice none 0 0], .int .i64 (errOf (n : Int) rows)])) w' :=
  ⟨zeroM, none, 0, none, 0, none, 0, rfl, MV.zero, fun _ => rfl, fun h => absurd h he, hb⟩
/-- a result stored into an older cell -/
theorem MatFin {w w2 : World} {n g : Nat} {ts : List (List Int)} {L : Option Addr} {lc : Nat} {cs : Array Value} {base : Nat} (hm : MV w2 (OkM w2 base none) (orM (varsT n) ts) (mcell (orM (varsT n) ts) none 0 none 0 L lc)) (hg : g < base) (hk : Blk w2 g 35 cs)
    (s2 : ∀ j t cs, j ≠ g → Blk w2 j t cs → Blk w j t cs) (hsz : w2.heap.size ≤ w.heap.size) : MV w (· < w.heap.size) (orM (varsT n) ts) (mcell (orM (varsT n) ts) none 0 none 0 L lc) := by
  have h1 : ∀ b, OkM w2 base none b → (∀ o, w.cell? ⟨b, o, none⟩ = w2.cell? ⟨b, o, none⟩) := fun b hb o => by
    rcases hb with hb | ⟨h0, _, cs, hb⟩
    · rcases hb with ⟨cs, hb⟩ | ⟨h0, cs, hb⟩
      · exact hb.cell_eq (s2 b _ _ (blk_ne hb hk (by decide)) hb) o
      · exact hb.cell_eq (s2 b _ _ (by omega) hb) o
    · exact hb.cell_eq (s2 b _ _ (by omega) hb) o
  exact MV.mono (fun b hb => Nat.lt_of_lt_of_le hb.lt hsz) _ _ (MV.keep h1 _ _ hm)
theorem orM_len (ps : List RP) (ts : List (List Int)) : (orM ps ts).ks.length = ts.length := by unfold orM; simp [MX.ks]
set_option maxHeartbeats 2000000 in
set_option maxRecDepth 100000 in
theorem Build_any (n : Nat) (hn : n ≤ 4) (K A : Option Addr) (kc c B : Nat) (rows : List (List Int × Bool)) (w : World) (hB : B ≤ w.heap.size) (h : RV w (· < B) (.mk 0 false [] (varsT n)) (rcell (.mk 0 false [] (varsT n)) none 0 K kc)) (hr : RowsIn w B A rows) (htab : TabOk w) :
    Calls Tryz.prog 7 #[.slice K n kc, .slice A rows.length c] w (BuildRes n rows w) := by
  have HK0 := Lib.hid (Blk.new w 35 #[.int .i64 0, .int .i64 0, .int .i64 0, .bool false, .slice none 0 0, .slice none 0 0, .slice none 0 0])
  have hb0 := (Below.refl w.heap.size w).alloc (Nat.le_refl _) (.cells #[.int .i64 0, .int .i64 0, .int .i64 0, .bool false, .slice none 0 0, .slice none 0 0, .slice none 0 0] 35)
  have HC := Lib.hid (Cover_good (n : Int) (by omega) A c B rows _ (Nat.le_trans hB hb0.size) (hr.below (hb0.mono hB)) (htab.on hb0))
  have HB0 := Lib.hid hb0
  have HR := Lib.hid (fun (W : World) (hW : Below w.heap.size w W) => (h.below (hW.mono hB)).more (Nat.le_trans hB hW.size))
  have HOKR := Lib.hid (fun (W : World) (ts : List (List Int)) (L : Option Addr) (lc : Nat) he hv hc hm hb => BuildRes.ok (n := n) (rows := rows) (w := w) (w' := W) (ts := ts) (L := L) (lc := lc) he hv hc hm hb)
  have HERR := Lib.hid (fun (W : World) he hb => BuildRes.err (n := n) (rows := rows) (w := w) (w' := W) he hb)
  generalize BuildRes n rows w = Post at *
  have HFEW := Lib.hid hr.few
  clear hb0 h hr htab hB
  go_enter Tryz.func7, Tryz.ntmps7
  go_wp2_with fail
  refine HC.out.mono ?_
  rintro e w1 ⟨A1, c1, ts, rfl, hl, hne, hok, hb1⟩
  have hz1 := HB0.out.size
  have hk1 := HK0.out.old hb1
  have HB1 := Lib.hid (HB0.out.trans (hb1.mono hz1))
  clear HC HB0 HK0 hb1 hz1
  generalize her : errOf (n : Int) rows = er at *
  clear her
  by_cases he : er = 0
  · subst he
    obtain ⟨N, hN, hv, hc⟩ := hok rfl
    obtain rfl : N = n := by omega
    have hm := mat6_any 2 (by omega) (varsT N) ts vars_few (by rw [varsT_len]; omega) (by have := hc.count; have := HFEW.out; omega) K A1 kc c1 w1.heap.size w1 (Nat.le_refl _) (HR.out w1 HB1.out) hl
    rw [varsT_len] at hm
    have HM := Lib.hid hm
    have HV := Lib.hid hv; have HCV := Lib.hid hc
    have HK1 := Lib.hid hk1
    clear hne hok hl hm hv hc hk1
    go_wp2_with fail
    refine HM.out.mono ?_
    intro e w2 hr
    unfold MatRes at hr
    rw [varsT_len, if_pos (cover_terms HCV.out).mat] at hr
    obtain ⟨⟨L, lc, rfl, hmv⟩, hb2⟩ := hr
    have hk2 := HK1.out.old hb2
    obtain ⟨s1, s2, s3⟩ := sets7 hk2 (.int .i64 4) (.int .i64 0) (.int .i64 0) (.bool false) (.slice none 0 0) (.slice none 0 0) (.slice L ts.length lc)
    have HS1 := Lib.hid s1
    have HFIN := Lib.hid (MatFin hmv HK1.out.lt hk2 s2 (s3 _ (Nat.le_refl _)).size)
    have HBF := Lib.hid ((HB1.out.trans (hb2.mono HB1.out.size)).trans (s3 _ (Nat.le_refl _)))
    have f0 := hk2.frozen 0; have f1 := hk2.frozen 1; have f2 := hk2.frozen 2; have f3 := hk2.frozen 3; have f4 := hk2.frozen 4; have f5 := hk2.frozen 5; have f6 := hk2.frozen 6
    have d0 := hk2.cell 0; have d1 := hk2.cell 1; have d2 := hk2.cell 2; have d3 := hk2.cell 3; have d4 := hk2.cell 4; have d5 := hk2.cell 5; have d6 := hk2.cell 6
    have z0 := hk2.lt
    clear hk2 s1 s2 s3 hmv hb2
    go_wp2_with fail
    refine ret_blk2 Tryz.results7 rfl rfl HS1.out Tryz.underlying35 rfl Tryz.sizeMat ?_
    exact HOKR.out _ _ _ _ (by first | rfl | trivial) HV.out HCV.out HFIN.out HBF.out
  · have hb0 : (er != 0) = true := by simpa using he
    obtain ⟨s1, s2, s3⟩ := sets7 hk1 (.int .i64 0) (.int .i64 0) (.int .i64 0) (.bool false) (.slice none 0 0) (.slice none 0 0) (.slice none 0 0)
    have HS1 := Lib.hid s1
    have HBF := Lib.hid (HB1.out.trans (s3 _ (Nat.le_refl _)))
    have f0 := hk1.frozen 0; have f1 := hk1.frozen 1; have f2 := hk1.frozen 2; have f3 := hk1.frozen 3; have f4 := hk1.frozen 4; have f5 := hk1.frozen 5; have f6 := hk1.frozen 6
    have d0 := hk1.cell 0; have d1 := hk1.cell 1; have d2 := hk1.cell 2; have d3 := hk1.cell 3; have d4 := hk1.cell 4; have d5 := hk1.cell 5; have d6 := hk1.cell 6
    have z0 := hk1.lt
    have HNE := Lib.hid he
    clear hk1 s1 s2 s3 hne hok hl he
    go_wp2_with fail
    refine ret_blk2 Tryz.results7 rfl rfl HS1.out Tryz.underlying35 rfl Tryz.sizeMat ?_
    exact HERR.out _ HNE.out HBF.out
end Go.Proofs.YtkkliemgidhgmaaGreatDoor
