/- Contract of sparse.Total. -/
import Derived.IntWalk
import Derived.Test.YtpbapoanjkekmaaT4
import Derived.Test.YtpbapoanjkekmaaU1
namespace Go.Proofs.Ytpbapoanjkekmaa
open Go.RowKit Go.Shelf
attribute [local go_sem] Oper.semAt_some

theorem Blk.farH {B : Nat} {W W' : World} {row : Option Nat} {k : Nat} {t : TypeId} {cs : Array Value} (h : Blk W k t cs) (hg : W.grownBy W' row) (hr : ∀ r, row = some r → B ≤ r ∧ ∃ o : Obj, W.heap[r]? = some o ∧ o.isCells = false) : Blk W' k t cs :=
  h.grown hg (fun e' => by obtain ⟨_, o, ho, hc⟩ := hr k e'.symm; rw [show W.heap[k]? = _ from h] at ho; cases ho; cases hc)
theorem told_mem {ps pre : List PT} {x : PT} (h : pre.map PT.tm ++ [x.tm] = (ps.take (pre.length + 1)).map PT.tm) (hl : pre.length < ps.length) : pre.map PT.tm = (ps.take pre.length).map PT.tm ∧ ∃ p, ps[pre.length]? = some p ∧ p.tm = x.tm := by
  obtain ⟨p, hp⟩ : ∃ p, ps[pre.length]? = some p := ⟨_, List.getElem?_eq_getElem hl⟩
  rw [take_snoc_tm hp] at h
  obtain ⟨h1, h2⟩ := List.append_inj' h rfl
  exact ⟨h1, p, hp, by simpa using h2.symm⟩
def smTo (m : Mo) : Nat → Int
  | 0 => 0
  | j + 1 => smTo m j + gt m j
theorem smTo_four (m : Mo) : smTo m 4 = sm m := by simp only [smTo, gt, sm]; omega

/-- between two rounds: the cell holds the greatest sum so far -/
def TInv (Bt : Nat) (w : World) (pre : List PT) (W : World) : Prop := Blk W Bt 3 #[.int .i64 (totL (pre.map PT.tm))] ∧ Below w.heap.size w W
def TRound (qs pre : List PT) (x : PT) (F : Nat → Act) (a : Act) (W : World) : Prop :=
  ∃ Bx, Blk W Bx 33 (moV x.m) ∧ pre.map PT.tm ++ [x.tm] = (qs.take (pre.length + 1)).map PT.tm ∧ pre.length < qs.length ∧ a = F Bx

set_option maxRecDepth 100000 in
set_option maxHeartbeats 4000000 in
theorem Total_any (A : Option Addr) (c B N : Nat) (E : Int) (M : Nat) (ps : List PT) (w : World) (hB : B ≤ w.heap.size) (h : PIn w B A ps N E M) (hN : N ≤ 50000) (hM : M < Big) (hE : E ≤ 1000000000) :
    Calls Try.prog 23 #[.slice A ps.length c] w fun e w' => (∃ P, Canon P ∧ (∀ m, cf P m = cf (ps.map PT.tm) m) ∧ e = .returned (.int .i64 (totL P))) ∧ Below w.heap.size w w' := by
  have HT := Lib.hid (fun (W : World) (hW : Below w.heap.size w W) => Terms_any A c B N E M ps W (Nat.le_trans hB hW.size) (h.below (hW.mono hB)) hN hM)
  clear h
  refine (callsIn_wide (n := 3)).1 ?_
  refine callsIn_of_wp_marks Try.func23 rfl trivial ?_ rfl
  simp only [Try.ntmps23, List.size_toArray, List.length_cons, List.length_nil, Nat.reduceAdd, Nat.reduceSub, Array.replicate_succ, Array.replicate_zero, List.push_toArray, List.append_toArray, List.nil_append, List.cons_append]
  gi_wp2_with (first | (refine ⟨trivial, ?_⟩; gi_at_call 24; refine (callsIn_wide.2 (HT.out _ ((Below.refl _ _).alloc (Nat.le_refl _) _))).mono ?_; rintro e w2 ⟨b, A1, c1, qs, rfl, hblk, hbb, hgd, hb⟩))
  have hb1 : Below w.heap.size w w2 := ((Below.refl _ _).alloc (Nat.le_refl _) _).trans (hb.mono (by simp))
  have hq : Blk w2 w.heap.size 3 #[.int .i64 (-1)] := (Blk.new w 3 #[.int .i64 (-1)]).old hb
  have hbw : w.heap.size < w2.heap.size := hq.lt
  have HGD := Lib.hid hgd
  have hqs : qs.length ≤ 100000 := by have := hgd.len; omega
  have hdl : ∀ p ∈ qs, p.ds.length ≤ 1000 := fun p hp => Nat.le_trans (hgd.dlen (k := 600) hM hp) (by omega)
  generalize hbTe : (w.alloc (.cells #[.int .i64 (-1)] 3)).heap.size = bT at *
  clear hbTe
  refine wpIn_range_tells (F := Fence.wide) (n := 3) rfl (by omega) (gf := 54) (lb := #[.pointer (some ⟨b, 0, none⟩)]) rfl trivial (enters_of Try.func54 (by kernel_rfl) rfl)
    (Terms1_tells 2 (by omega) b bT A1 c1 qs w2 hqs hblk hgd.own hdl) KT.trans (fun W l o o' h1 h2 => KT.put o' h1 h2) (fun _ => rfl)
    (TInv w.heap.size w) (fun _ _ _ => False)
    (fun pre W W' row hs hg hr => ⟨hs.1.farH hg hr, ownFrom_below (β := Unit) (Nat.le_refl _) hb1.size () W W' row hs.2 hg hr⟩) (fun _ _ _ _ _ hs _ _ => hs) ⟨hq, hb1⟩
    (fun pre x a' W => TRound qs pre x (fun Bx => { tmps := #[.slice A ps.length c, undef, .int .i64 0, .pointer (some ⟨w.heap.size, 0, none⟩), .pointer (some ⟨Bx, 0, none⟩), undef, undef, undef, .slice A ps.length c, .func (.func 54) #[] #[.pointer (some ⟨b, 0, none⟩)], .agg #[.int .i64 x.m.1, .int .i64 x.m.2.1, .int .i64 x.m.2.2.1, .int .i64 x.m.2.2.2], .agg #[.bool x.ng, .slice x.A x.ds.length x.c], undef, undef, undef, undef, undef, undef, undef, undef, undef, undef, undef, undef], defers := [] }) a' W)
    (fun pre x a' u W W' row hs hg hr => by
      obtain ⟨Bx, h1, h2⟩ := hs
      exact ⟨Bx, h1.farH hg hr, h2⟩)
    ?assign ?body ?done ?stop
  case assign =>
    rintro l pre x W K ⟨hi1, hi2⟩ ⟨_, _, _, t4, t5⟩ hK
    unfold yargs moV
    have hba := (Below.refl W.heap.size W).alloc (Nat.le_refl _) (.cells #[.int .i64 x.m.1, .int .i64 x.m.2.1, .int .i64 x.m.2.2.1, .int .i64 x.m.2.2.2] 33)
    have HT4 := Lib.hid t4
    clear t4
    gi_wp2
    exact hK _ _ ((KeepsOthers.alloc _ _).from _) (.old hba) ⟨hi1.old hba, hi2.trans (hba.mono hi2.size)⟩ ⟨W.heap.size, Blk.new W _ _, HT4.out, t5, rfl⟩
  case body =>
    rintro l pre x a' W hl ⟨hi1, hi2⟩ ⟨Bx, hx2, htold, hlt, rfl⟩
    obtain ⟨hpre, q, hq1, hqx⟩ := told_mem htold hlt
    have hqm : q.m = x.m := congrArg Prod.snd hqx
    have hv : vld x.m = true := by rw [← hqm]; exact HGD.out.vl (List.mem_of_getElem? hq1)
    have hmb : MB E x.m := by rw [← hqm]; exact HGD.out.mb q (List.mem_of_getElem? hq1)
    rw [vld_iff] at hv
    obtain ⟨v0, v1, v2, v3⟩ := hv
    obtain ⟨m0, m1, m2, m3⟩ := hmb
    have HSF := Lib.hid (smTo_four x.m)
    have HSN := Lib.hid (show totL ((pre ++ [x]).map PT.tm) = max (totL (pre.map PT.tm)) (sm x.m) by rw [List.map_append, List.map_cons, List.map_nil]; exact mxL_snoc _ _ _ _)
    have x0 : ∀ W, (Instr.index 33 (.agg #[.int .i64 x.m.1, .int .i64 x.m.2.1, .int .i64 x.m.2.2.1, .int .i64 x.m.2.2.2]) (.int .i64 0)).run Try.prog W = .ok (.int .i64 x.m.1) W := fun W => Try.index_mono x.m 0 (by decide) W
    have x1 : ∀ W, (Instr.index 33 (.agg #[.int .i64 x.m.1, .int .i64 x.m.2.1, .int .i64 x.m.2.2.1, .int .i64 x.m.2.2.2]) (.int .i64 1)).run Try.prog W = .ok (.int .i64 x.m.2.1) W := fun W => Try.index_mono x.m 1 (by decide) W
    have x2 : ∀ W, (Instr.index 33 (.agg #[.int .i64 x.m.1, .int .i64 x.m.2.1, .int .i64 x.m.2.2.1, .int .i64 x.m.2.2.2]) (.int .i64 2)).run Try.prog W = .ok (.int .i64 x.m.2.2.1) W := fun W => Try.index_mono x.m 2 (by decide) W
    have x3 : ∀ W, (Instr.index 33 (.agg #[.int .i64 x.m.1, .int .i64 x.m.2.1, .int .i64 x.m.2.2.1, .int .i64 x.m.2.2.2]) (.int .i64 3)).run Try.prog W = .ok (.int .i64 x.m.2.2.2) W := fun W => Try.index_mono x.m 3 (by decide) W
    have c0 : W.cell? ⟨Bx, 0, none⟩ = some (.int .i64 x.m.1) := hx2.cell 0
    have c1' : W.cell? ⟨Bx, 1, none⟩ = some (.int .i64 x.m.2.1) := hx2.cell 1
    have c2 : W.cell? ⟨Bx, 2, none⟩ = some (.int .i64 x.m.2.2.1) := hx2.cell 2
    have c3 : W.cell? ⟨Bx, 3, none⟩ = some (.int .i64 x.m.2.2.2) := hx2.cell 3
    have hw : ∀ y : Int, 0 ≤ y → y ≤ 4000000000 → IntKind.i64.wrap y = y := fun y h0 h1 => IntWalk.i64_in _ (by omega)
    have HW := Lib.hid hw
    have HB0 := Lib.hid (show smTo x.m 0 = 0 from rfl)
    have HB1 := Lib.hid (show smTo x.m 1 = smTo x.m 0 + x.m.1 from rfl)
    have HB2 := Lib.hid (show smTo x.m 2 = smTo x.m 1 + x.m.2.1 from rfl)
    have HB3 := Lib.hid (show smTo x.m 3 = smTo x.m 2 + x.m.2.2.1 from rfl)
    have HB4 := Lib.hid (show smTo x.m 4 = smTo x.m 3 + x.m.2.2.2 from rfl)
    have HH := Lib.hid (And.intro hi1 hi2)
    clear hpre hqx hqm htold hq1 hw hi1 hi2 hx2
    gi_wp2
    gi_loopg [5, 7, 13] 4 (fun gn ss _ ix wj => ∃ (j : Nat) (z y : Int), j ≤ 4 ∧ z = j ∧ gn = 4 - j ∧ ix = .int .i64 z ∧ ss = .int .i64 y ∧ y = smTo x.m j ∧ wj = W)
    case atStart => exact ⟨0, 0, 0, by omega, rfl, rfl, rfl, rfl, rfl, rfl⟩
    case round =>
      obtain ⟨j, z, y, hj, hz, hgj, rfl, rfl, hy, rfl⟩ := hrel
      have HGJ := Lib.hid hgj; clear hgj
      have HY := Lib.hid hy; clear hy
      by_cases hlt3 : j < 4
      · clear c0 c1' c2 c3
        rcases (by omega : j = 0 ∨ j = 1 ∨ j = 2 ∨ j = 3) with rfl | rfl | rfl | rfl
        · obtain rfl : z = 0 := hz
          have hyb := HW.out (y + x.m.1) (by have := HY.out; have := HB0.out; omega) (by have := HY.out; have := HB0.out; omega)
          gi_wp2
          gi_roundg 3
          case rel => exact ⟨1, 1, y + x.m.1, by omega, rfl, rfl, rfl, rfl, by rw [HB1.out, HY.out], rfl⟩
          case measure => have := HGJ.out; omega
        · obtain rfl : z = 1 := hz
          have hyb := HW.out (y + x.m.2.1) (by have := HY.out; have := HB0.out; have := HB1.out; omega) (by have := HY.out; have := HB0.out; have := HB1.out; omega)
          gi_wp2
          gi_roundg 2
          case rel => exact ⟨2, 2, y + x.m.2.1, by omega, rfl, rfl, rfl, rfl, by rw [HB2.out, HY.out], rfl⟩
          case measure => have := HGJ.out; omega
        · obtain rfl : z = 2 := hz
          have hyb := HW.out (y + x.m.2.2.1) (by have := HY.out; have := HB0.out; have := HB1.out; have := HB2.out; omega) (by have := HY.out; have := HB0.out; have := HB1.out; have := HB2.out; omega)
          gi_wp2
          gi_roundg 1
          case rel => exact ⟨3, 3, y + x.m.2.2.1, by omega, rfl, rfl, rfl, rfl, by rw [HB3.out, HY.out], rfl⟩
          case measure => have := HGJ.out; omega
        · obtain rfl : z = 3 := hz
          have hyb := HW.out (y + x.m.2.2.2) (by have := HY.out; have := HB0.out; have := HB1.out; have := HB2.out; have := HB3.out; omega) (by have := HY.out; have := HB0.out; have := HB1.out; have := HB2.out; have := HB3.out; omega)
          gi_wp2
          gi_roundg 0
          case rel => exact ⟨4, 4, y + x.m.2.2.2, by omega, rfl, rfl, rfl, rfl, by rw [HB4.out, HY.out], rfl⟩
          case measure => have := HGJ.out; omega
      · obtain rfl : j = 4 := by omega
        obtain rfl : z = 4 := hz
        obtain ⟨hi1, hi2⟩ := HH.out
        have cj : wr.cell? ⟨w.heap.size, 0, none⟩ = some (.int .i64 (totL (pre.map PT.tm))) := hi1.cell 0
        have fj := hi1.frozen 0
        have hset := hi1.set_ 0 (.int .i64 (max (totL (pre.map PT.tm)) y))
        have HFIN := Lib.hid (show KeepsFrom w2.heap.size wr (wr.setCell ⟨w.heap.size, 0, none⟩ (.int .i64 (max (totL (pre.map PT.tm)) y))) ∧ KT b bT (.slice A1 qs.length c1) qs wr (wr.setCell ⟨w.heap.size, 0, none⟩ (.int .i64 (max (totL (pre.map PT.tm)) y))) ∧ TInv w.heap.size w (pre ++ [x]) (wr.setCell ⟨w.heap.size, 0, none⟩ (.int .i64 (max (totL (pre.map PT.tm)) y))) from
          ⟨(KeepsOthers.setCell _ _ _).from _, KT.set hi1 (by decide) (by decide) (by decide) _, by rw [HSN.out, ← HSF.out, ← HY.out]; exact hset, hi2.setCell (Nat.le_refl _) _⟩)
        clear hset hi1 hi2 c0 c1' c2 c3
        generalize totL (pre.map PT.tm) = tt at *
        gi_wp2
        exact HFIN.out
  case done =>
    rintro D ys W hD hS ⟨hi1, hi2⟩ hK
    have cj : W.cell? ⟨w.heap.size, 0, none⟩ = some (.int .i64 (totL (ys.map PT.tm))) := hi1.cell 0
    have HS := Lib.hid hS
    clear hS
    gi_wp2
    refine ⟨by simp, .inl ⟨_, _, rfl, run_takeDeferred hK, ?_⟩⟩
    refine ⟨_, results_tmp rfl _ _ _, ⟨ys.map PT.tm, ?_, ?_, rfl⟩, ?_⟩
    · rw [HS.out]; exact HGD.out.can
    · rw [HS.out]; exact HGD.out.cf
    · exact hi2.trans (belowK_b (w := w) (Nat.le_refl _) W D _ _ (by omega) hK rfl rfl)
  case stop =>
    rintro D cc pre W _ _ h _
    exact h.elim
end Go.Proofs.Ytpbapoanjkekmaa
