/- Contract of gather.add: a monomial that is new; and all cases. -/
import Derived.Test.YtpbapoanjkekmaaGreatG4
import Derived.Test.YtpbapoanjkekmaaGreatG5
namespace Go.Proofs.YtpbapoanjkekmaaGreat
open Go.RowKit
attribute [local go_sem ↓] Go.wp_at_zero Go.wp_at_succ

theorem Tryz.infoTerm : (Tryz.prog.info? 56).map (fun i => (i.zero, i.size, i.bytes)) = some (some (.agg #[.bool false, .slice none 0 0, .int .i64 0, .int .i64 0, .int .i64 0, .int .i64 0]), 6, 64) := by kernel_rfl

set_option maxHeartbeats 4000000 in
set_option maxRecDepth 100000 in
theorem gadd_new (base g mb : Nat) (As : Option Addr) (cs : Nat) (ts : List Tm) (ps : List PT) (m0 m1 m2 m3 : Int) (ng : Bool) (A : Option Addr) (c : Nat) (ds : List Nat) (w : World) (hG : GAt w base g mb (.slice As ps.length cs) ps) (hI : GInv ts (ps.map PT.tm)) (hb : base ≤ w.heap.size) (hv : vld (m0, m1, m2, m3) = true) (hm : WfM (m0, m1, m2, m3))
    (hin : NatIn w w.heap.size A c ds) (hl0 : ds.length ≤ 1000) (hlen : ps.length ≤ 100000) (f : Mo → Option Nat) (hf : MMap w mb ps.length f) (hix : IdxOk ps f) (hfi : f (m0, m1, m2, m3) = none) :
    Calls Tryz.prog 36 #[.pointer (some ⟨g, 0, none⟩), .agg (moV (m0, m1, m2, m3)), .agg #[.bool ng, .slice A ds.length c]] w (AddRes base g mb (.slice As ps.length cs) (ts ++ [(ival ng ds, (m0, m1, m2, m3))]) w) := by
  obtain ⟨i0, hi0, hz0, hz1, hz2⟩ := info_parts Tryz.infoTerm
  have HF := Lib.hid hf
  have ha0 : ∀ t ∈ ps.map PT.tm, t.2 ≠ (m0, m1, m2, m3) := fun t ht => by
    obtain ⟨p, hp, rfl⟩ := List.mem_map.1 ht
    exact hix.2 _ hfi p hp
  have HI := Lib.hid (hI.new hv ha0 (ival ng ds))
  have hn := fun W => neg_any (m0, m1, m2, m3) W
  rw [hv] at hn
  have hlk := fun (W : World) (hW : Below w.heap.size w W) => (hf.old hW).look hm
  rw [hfi] at hlk
  simp only [Option.getD_none, Option.isSome_none] at hlk
  have hst := fun (W : World) (hW : Below w.heap.size w W) => (hf.old hW).store hm (by unfold maxLen; omega) ps.length (by omega)
  have ha := fun (W : World) (B : Nat) (hW : NatIn W B A c ds) (hB : B ≤ W.heap.size) => INormal_any ng A c B ds W hB hW (by omega)
  have HSN := Lib.hid (fun (X w4 : World) (v' : Value) (A3 : Option Addr) (c3 : Nat) => @gat_snoc X w4 base g mb (.slice As ps.length cs) v' ps (mkP (ival ng ds) A3 c3 (m0, m1, m2, m3)) (fun x => if x = (m0, m1, m2, m3) then some ps.length else f x))
  have HIX := Lib.hid (fun (A3 : Option Addr) (c3 : Nat) => hix.snoc (mkP (ival ng ds) A3 c3 (m0, m1, m2, m3)))
  have hgb := hG.gb
  have HGA := Lib.hid hG
  have HGB := Lib.hid hgb
  have HIN := Lib.hid hin
  have HA := Lib.hid ha
  have HLK := Lib.hid hlk
  have HST := Lib.hid hst
  have HN := Lib.hid hn
  have HX := Lib.hid (boxes2 w 44 31 (moV (m0, m1, m2, m3)) #[.bool ng, .slice A ds.length c])
  clear ha0 hn hlk hst ha hgb hG hI hv hm hin hf hix hfi
  unfold AddRes
  unfold IntRes at HA
  generalize ts ++ [(ival ng ds, (m0, m1, m2, m3))] = ts' at *
  simp only [moV] at *
  go_enter Tryz.func36, Tryz.ntmps36
  go_wp2_with fail
  generalize (w.alloc (.cells #[.int .i64 m0, .int .i64 m1, .int .i64 m2, .int .i64 m3] 44)).alloc (.cells #[.bool ng, .slice A ds.length c] 31) = W at *
  obtain ⟨hb0, k0, k1, hs⟩ := HX.out
  clear hs HX
  refine (HN.out _).mono ?_
  rintro e W1 ⟨rfl, hl⟩
  have hlb := hb0.trans (hl.below.mono hb0.size)
  have q0 := k0.old hl.below; have q1 := k1.old hl.below
  clear k0 k1 hb0 hl
  have gb1 := HGB.out.old hlb
  have g0 : W1.cell? ⟨g, 0, none⟩ = some (.map (some mb)) := gb1.cell 0
  have b0 : W1.cell? ⟨w.heap.size, 0, none⟩ = some (.int .i64 m0) := q0.cell 0
  have b1 : W1.cell? ⟨w.heap.size, 1, none⟩ = some (.int .i64 m1) := q0.cell 1
  have b2 : W1.cell? ⟨w.heap.size, 2, none⟩ = some (.int .i64 m2) := q0.cell 2
  have b3 : W1.cell? ⟨w.heap.size, 3, none⟩ = some (.int .i64 m3) := q0.cell 3
  have hlk1 := fun (n : Nat) => HLK.out (W1.drewN n) (hlb.trans ((Drawn.drewN _ _).below _))
  go_wp2_with fail
  go_quiet (fail)
  clear hlk1 b0 b1 b2 b3 g0
  have hlb2 : Below w.heap.size w (W1.drewN nq) := hlb.trans ((Drawn.drewN _ _).below _)
  replace gb1 := gb1.drewN nq
  replace q0 := q0.drewN nq
  replace q1 := q1.drewN nq
  clear hlb
  generalize W1.drewN nq = W2 at *
  have g0 : W2.cell? ⟨g, 0, none⟩ = some (.map (some mb)) := gb1.cell 0
  have g1 : W2.cell? ⟨g, 1, none⟩ = some (.slice As ps.length cs) := gb1.cell 1
  have b0 : W2.cell? ⟨w.heap.size, 0, none⟩ = some (.int .i64 m0) := q0.cell 0
  have b1 : W2.cell? ⟨w.heap.size, 1, none⟩ = some (.int .i64 m1) := q0.cell 1
  have b2 : W2.cell? ⟨w.heap.size, 2, none⟩ = some (.int .i64 m2) := q0.cell 2
  have b3 : W2.cell? ⟨w.heap.size, 3, none⟩ = some (.int .i64 m3) := q0.cell 3
  go_wp2_with fail
  obtain ⟨W5, hrun, hmp, hgr⟩ := HST.out W2.drew (hlb2.trans ((Drawn.drew _).below _))
  refine wp_region_still_tail 10 (by kernel_rfl) (by kernel_rfl) ?_
  simp only [List.take_succ_cons, List.take_zero, List.drop_succ_cons, List.drop_zero]
  repeat still_step
  refine wpStill_nil ?_
  change wpList _ _ _ _ _ W2.drew
  clear g0 g1 b0 b1 b2 b3
  have hlb3 : Below w.heap.size w W2.drew := hlb2.trans ((Drawn.drew _).below _)
  have hgm := (HF.out.old hlb3)
  have G2 := HGA.out.old hlb3
  have gb5 := G2.gb.grown hgr (fun e => hgm.ne_blk G2.gb (by injection e with e; exact e.symm))
  have q05 : Blk W5 w.heap.size 44 #[.int .i64 m0, .int .i64 m1, .int .i64 m2, .int .i64 m3] := Blk.grown (w := W2.drew) q0 hgr (fun e => hgm.ne_blk (show Blk W2.drew _ _ _ from q0) (by injection e with e; exact e.symm))
  have q15 : Blk W5 (w.heap.size + 1) 31 #[.bool ng, .slice A ds.length c] := Blk.grown (w := W2.drew) q1 hgr (fun e => hgm.ne_blk (show Blk W2.drew _ _ _ from q1) (by injection e with e; exact e.symm))
  have ro5 := G2.row.kept hgr (.inr (fun e => map_ne_own hgm G2.row e.symm))
  have hb5 : base ≤ W5.heap.size := Nat.le_trans hb (Nat.le_trans hlb3.size hgr.size)
  have t5 : GTurn base w W5 := (GTurn.of_below hb hlb3).trans (GTurn.map_ (Nat.le_trans hb hlb3.size) hgm G2.lm hgr)
  have dg5 : ∀ p ∈ ps, NatB W5 p.A p.ds ∧ p.ds.length ≤ p.c := fun p hp => ⟨t5.natB (HGA.out.dg p hp).1, (HGA.out.dg p hp).2⟩
  have in5 : NatIn W5 w.heap.size A c ds := (HIN.out.below hlb3).map_ hlb3.size hgm hgr
  have in5' : NatIn W5.drew w.heap.size A c ds := ⟨in5.rd, in5.dg, in5.cap⟩
  have hwb5' : w.heap.size ≤ W5.drew.heap.size := Nat.le_trans hlb3.size hgr.size
  clear in5
  have hwb5 : w.heap.size ≤ W5.heap.size := Nat.le_trans hlb3.size hgr.size
  have DG5 := Lib.hid dg5
  have LG := Lib.hid G2.lg; have LM := Lib.hid G2.lm
  have lg5 := gb5.lt; have l05 := q05.lt; have l15 := q15.lt
  have g1 : W5.cell? ⟨g, 1, none⟩ = some (.slice As ps.length cs) := gb5.cell 1
  have b0 : W5.cell? ⟨w.heap.size, 0, none⟩ = some (.int .i64 m0) := q05.cell 0
  have b1 : W5.cell? ⟨w.heap.size, 1, none⟩ = some (.int .i64 m1) := q05.cell 1
  have b2 : W5.cell? ⟨w.heap.size, 2, none⟩ = some (.int .i64 m2) := q05.cell 2
  have b3 : W5.cell? ⟨w.heap.size, 3, none⟩ = some (.int .i64 m3) := q05.cell 3
  have e0 : W5.cell? ⟨w.heap.size + 1, 0, none⟩ = some (.bool ng) := q15.cell 0
  have e1 : W5.cell? ⟨w.heap.size + 1, 1, none⟩ = some (.slice A ds.length c) := q15.cell 1
  have h63 : ps.length + 1 ≤ maxLen := by unfold maxLen; omega
  have hby : (ps.length + 1) * 64 ≤ 140737488355328 := by omega
  have HFM := Lib.hid (fun (k : Nat) (t : TypeId) (cs' : Array Value) (h1 : Blk w k t cs') => show Blk W5 k t cs' from (h1.old hlb3).grown hgr (fun e => hgm.ne_blk (h1.old hlb3) (by injection e with e; exact e.symm)))
  have HO5 := Lib.hid (show OthT mb w W5 from (OthT.of_below hlb3).map_ hgr)
  clear dg5 hgm G2 q0 q1 hlb2 hlb3 gb1 HF
  go_wp2_with fail
  go_region_law (first
    | (refine step_append_any _ rfl (.tmp 51) (.tmp 56) 23 (by rfl) base 56 i0 _ 6 64 Tryz.underlying23 hi0 hz0 hz1 hz2 rfl (by decide) (.slice As ps.length cs) ps.length (ps.flatMap PT.cells) (by rfl) roX (w3.heap.size + 1) (some ⟨w3.heap.size, 0, none⟩) 1 1 (mkP (ival ng ds) A3 c3 (m0, m1, m2, m3)).cells (by rfl) hrd hone h63 hby hbX ?_
       intro v' w4 hown4 hg4 hat4
       obtain ⟨As', cs', rfl⟩ := own_slice6 hown4
       have gb4 := gbX.grown hg4 (own_row_far roX gbX ne_gt)
       have y1 : w4.cell? ⟨g, 1, none⟩ = some (.slice As ps.length cs) := gb4.cell 1
       have y2 := gb4.frozen 1)
    | (go_simp
       go_at_call 45
       refine (HA.out _ _ in5' hwb5').mono ?_
       rintro e w3 ⟨A3, c3, rfl, h3, h4, h5⟩
       have z1 := (h5.cell lg5).trans g1
       have z2 := (h5.cell l05).trans b0
       have z3 := (h5.cell l05).trans b1
       have z4 := (h5.cell l05).trans b2
       have z5 := (h5.cell l05).trans b3
       have hrd : Reads (w3.alloc (.cells #[.bool (decide (ival ng ds < 0)), .slice A3 (dig (ival ng ds).natAbs).length c3, .int .i64 m0, .int .i64 m1, .int .i64 m2, .int .i64 m3] 56)) (w3.heap.size + 1) 6 (some ⟨w3.heap.size, 0, none⟩) 1 (mkP (ival ng ds) A3 c3 (m0, m1, m2, m3)).cells := Reads.six_new w3 (mkP (ival ng ds) A3 c3 (m0, m1, m2, m3)).cells rfl 56
       have hone := cells_one [mkP (ival ng ds) A3 c3 (m0, m1, m2, m3)]
       have gbX : Blk (w3.alloc (.cells #[.bool (decide (ival ng ds < 0)), .slice A3 (dig (ival ng ds).natAbs).length c3, .int .i64 m0, .int .i64 m1, .int .i64 m2, .int .i64 m3] 56)) g 95 #[.map (some mb), .slice As ps.length cs] := (Blk.old (w := W5.drew) gb5 h5).alloc _
       have roX : (w3.alloc (.cells #[.bool (decide (ival ng ds < 0)), .slice A3 (dig (ival ng ds).natAbs).length c3, .int .i64 m0, .int .i64 m1, .int .i64 m2, .int .i64 m3] 56)).ownsRow base 56 6 (.slice As ps.length cs) ps.length (ps.flatMap PT.cells) := own_old (w := W5.drew) ro5 (h5.alloc h5.size _)
       have hbX : base ≤ (w3.alloc (.cells #[.bool (decide (ival ng ds < 0)), .slice A3 (dig (ival ng ds).natAbs).length c3, .int .i64 m0, .int .i64 m1, .int .i64 m2, .int .i64 m3] 56)).heap.size := Nat.le_trans hb5 (h5.alloc h5.size _).size
       have z6 := gbX.cell 1))
  all_goals
    go_wp2_with fail
    go_end0
    have h5' : Below W5.heap.size W5 w3 := ((Drawn.drew W5).below _).trans h5
    obtain ⟨u1, u2⟩ := HSN.out w3 w4 _ A3 c3 (Nat.le_trans hb5 h5'.size) LG.out LM.out (gb5.old h5') (hmp.old h5') (HIX.out A3 c3) (own_old ro5 h5') (fun p hp => ⟨(DG5.out p hp).1.old h5', (DG5.out p hp).2⟩) HGA.out.cn h4 h3 (mkP_cn _ _ _ _) _ hown4 hg4
    have hfar : FarT g (.slice As ps.length cs) (.slice As' (ps.length + 1) cs') w (w4.setCell ⟨g, 1, none⟩ (.slice As' (ps.length + 1) cs')) := fun k t cs1 x1 x2 x3 => by
      have y1' := (HFM.out k t cs1 x1).old h5'
      have y3' := (y1'.alloc (.cells #[.bool (decide (ival ng ds < 0)), .slice A3 (dig (ival ng ds).natAbs).length c3, .int .i64 m0, .int .i64 m1, .int .i64 m2, .int .i64 m3] 56)).grown hg4 (fun e => x3 e.symm)
      refine ⟨y3'.far x2 _, fun e => ?_⟩
      rcases hat4 with z | z
      · exact x3 (z.symm.trans e)
      · have := x1.lt
        have h6 := h5'.size
        rw [e] at z
        injection z with z
        simp at z
        omega
    refine ⟨rfl, _, _, u1, ?_, (t5.trans (.of_below hb5 h5')).trans u2, hfar, (((HO5.out.below h5').alloc _).own hg4 roX).set gb4 _ _⟩
    rw [List.map_append, List.map_cons, List.map_nil, mkP_tm]
    exact HI.out

/-- gather.add adds a term -/
theorem gadd_any (base g mb : Nat) (v : Value) (ts : List Tm) (ps : List PT) (m : Mo) (ng : Bool) (A : Option Addr) (c : Nat) (ds : List Nat) (w : World) (hG : GAt w base g mb v ps) (hI : GInv ts (ps.map PT.tm)) (hb : base ≤ w.heap.size) (hm : WfM m)
    (hin : NatIn w w.heap.size A c ds) (hl0 : ds.length ≤ 1000) (hlen : ts.length ≤ 100000) (hbig : nrm ts < Big) :
    Calls Tryz.prog 36 #[.pointer (some ⟨g, 0, none⟩), .agg (moV m), .agg #[.bool ng, .slice A ds.length c]] w (AddRes base g mb v (ts ++ [(ival ng ds, m)]) w) := by
  have hpl : ps.length ≤ 100000 := by have := hI.len; simp at this; omega
  cases hv : vld m with
  | false => exact gadd_neg base g mb v ts ps m ng A c ds w hG hI hb hv
  | true =>
    obtain ⟨f, hf, hix⟩ := hG.mp
    cases hfi : f m with
    | none =>
      obtain ⟨As, cs, rfl⟩ := own_slice6 hG.row
      exact gadd_new base g mb As cs ts ps m.1 m.2.1 m.2.2.1 m.2.2.2 ng A c ds w hG hI hb hv hm hin hl0 hpl f hf hix hfi
    | some i =>
      obtain ⟨p, hp, hpm⟩ := hix.1 m i hfi
      exact gadd_old base g mb v ts ps m ng A c ds w hG hI hb hv hm hin hl0 hpl hbig f hf i p hfi hp hpm
end Go.Proofs.YtpbapoanjkekmaaGreat
