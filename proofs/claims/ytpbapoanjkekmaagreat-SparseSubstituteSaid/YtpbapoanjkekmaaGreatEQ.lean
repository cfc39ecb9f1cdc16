/- Contracts of the package rational: From, Of, parts, Sign, reduce. -/
import Derived.IntWalk
import Derived.StillTailTactics
import Derived.Deep.RegionHeld3
import Derived.RegionTactic
import Derived.Test.YtpbapoanjkekmaaGreatVW
import Derived.Test.YtpbapoanjkekmaaGreatZI
import Derived.Test.YtpbapoanjkekmaaGreatZG
namespace Go.Proofs.YtpbapoanjkekmaaGreat
open Go.RowKit

theorem Tryz.sizeRat : (Tryz.prog.info? 33).map (·.size) = some 3 := by kernel_rfl
/-- a rational number in lowest terms that a call has made -/
def RatRes (q : Rat) (w : World) (e : Ending) (w' : World) : Prop :=
  ∃ (A : Option Addr) (c : Nat) (D : Option Addr) (cd : Nat), e = .returned (.agg #[.bool (decide (q.num < 0)), .slice A (dig q.num.natAbs).length c, .slice D (dig q.den).length cd]) ∧ (dig q.num.natAbs).length ≤ c ∧ (dig q.den).length ≤ cd ∧ NatB w' A (dig q.num.natAbs) ∧ NatB w' D (dig q.den) ∧ Below w.heap.size w w'
theorem NatB.keepTwo {w : World} {g : Nat} {t : TypeId} {cs : Array Value} (hk : Blk w g t cs) (ht : t ≠ 82) (a b c : Value) {A : Option Addr} {ds : List Nat} (h : NatB w A ds) : NatB (((w.setCell ⟨g, 0, none⟩ a).setCell ⟨g, 1, none⟩ b).setCell ⟨g, 2, none⟩ c) A ds :=
  ((h.far hk ht 0 a).far (hk.set_ 0 a) ht 1 b).far ((hk.set_ 0 a).set_ 1 b) ht 2 c
theorem dig_one' : dig 1 = [1] := by decide +kernel
theorem Of_one (w : World) : Calls Tryz.prog 46 #[.int .u64 1] w fun e w' => ∃ A c, e = .returned (.slice A 1 c) ∧ 1 ≤ c ∧ NatB w' A [1] ∧ Below w.heap.size w w' := by
  have h := Of_any 1 (by omega) w
  unfold NatRes at h
  rw [dig_one'] at h
  exact h
theorem RatRes.int {z : Int} {w w' : World} {A D : Option Addr} {c cd : Nat} (h1 : (dig z.natAbs).length ≤ c) (h2 : 1 ≤ cd) (h3 : NatB w' A (dig z.natAbs)) (h4 : NatB w' D [1]) (h5 : Below w.heap.size w w') :
    RatRes (z : Rat) w (.returned (.agg #[.bool (decide (z < 0)), .slice A (dig z.natAbs).length c, .slice D 1 cd])) w' := by
  unfold RatRes
  rw [Rat.num_intCast, Rat.den_intCast, dig_one']
  exact ⟨A, c, D, cd, rfl, h1, h2, h3, h4, h5⟩
set_option maxHeartbeats 1000000 in
set_option maxRecDepth 100000 in
theorem RFrom_any (ng : Bool) (A : Option Addr) (c B : Nat) (ds : List Nat) (w : World) (hB : B ≤ w.heap.size) (h : NatIn w B A c ds) (hm : ds.length ≤ 1000000) :
    Calls Tryz.prog 31 #[.agg #[.bool ng, .slice A ds.length c]] w (RatRes ((ival ng ds : Int) : Rat) w) := by
  obtain ⟨hb0, k0, k1, hs⟩ := boxes2 w 31 33 #[.bool ng, .slice A ds.length c] #[.bool false, .slice none 0 0, .slice none 0 0]
  have HN := Lib.hid (INormal_any ng A c B ds _ (Nat.le_trans hB hb0.size) (h.below (hb0.mono hB)) hm)
  unfold IntRes at HN
  generalize ival ng ds = z at *
  have HO := Lib.hid (fun (W : World) => Of_one W)
  have HB0 := Lib.hid hb0; have HK1 := Lib.hid k1
  have HRS := Lib.hid (fun (w' : World) (A D : Option Addr) (c cd : Nat) h1 h2 h3 h4 h5 => RatRes.int (z := z) (w := w) (w' := w') (A := A) (D := D) (c := c) (cd := cd) h1 h2 h3 h4 h5)
  generalize RatRes ((z : Int) : Rat) w = Post at *
  clear h hs hb0 k0 k1 hm hB
  go_enter Tryz.func31, Tryz.ntmps31
  go_wp2_with fail
  refine HN.out.mono ?_
  rintro e w1 ⟨A1, c1, rfl, l1, n1, hb1⟩
  have HB1 := Lib.hid (HB0.out.trans (hb1.mono HB0.out.size))
  have HK1' := Lib.hid (HK1.out.old hb1)
  have HN1 := Lib.hid n1
  have HL1 := Lib.hid l1
  clear hb1 n1 l1 HN HK1 HB0
  generalize (dig z.natAbs).length = zl at *
  go_wp2_with fail
  refine (HO.out w1).mono ?_
  rintro e w2 ⟨A2, c2, rfl, l2, n2, hb2⟩
  have hk := HK1'.out.old hb2
  have HB2 := Lib.hid ((((HB1.out.trans (hb2.mono HB1.out.size)).setCell (p := ⟨w.heap.size + 1, 0, none⟩) (Nat.le_succ _) (.bool (decide (z < 0)))).setCell (p := ⟨w.heap.size + 1, 1, none⟩) (Nat.le_succ _) (.slice A1 zl c1)).setCell (p := ⟨w.heap.size + 1, 2, none⟩) (Nat.le_succ _) (.slice A2 1 c2))
  have d0 := hk.cell 0; have d1 := hk.cell 1; have d2 := hk.cell 2
  have f0 := hk.frozen 0; have f1 := hk.frozen 1; have f2 := hk.frozen 2
  have z0 := hk.lt
  have HS := Lib.hid (((hk.set_ 0 (.bool (decide (z < 0)))).set_ 1 (.slice A1 zl c1)).set_ 2 (.slice A2 1 c2))
  have HN1' := Lib.hid (NatB.keepTwo hk (by decide) (.bool (decide (z < 0))) (.slice A1 zl c1) (.slice A2 1 c2) (HN1.out.old hb2))
  have HN2' := Lib.hid (NatB.keepTwo hk (by decide) (.bool (decide (z < 0))) (.slice A1 zl c1) (.slice A2 1 c2) n2)
  have HL2 := Lib.hid l2
  clear hk hb2 n2 l2
  go_wp2_with fail
  refine ret_blk Tryz.results31 rfl rfl HS.out Tryz.underlying33 rfl Tryz.sizeRat ?_
  exact HRS.out _ _ _ _ _ HL1.out HL2.out HN1'.out HN2'.out HB2.out
/-- a rational number stored into the result's cell -/
theorem RatFin {q : Rat} {w w2 : World} {g : Nat} {x0 x1 x2 : Value} {A D : Option Addr} {c cd : Nat} (hk : Blk w2 g 33 #[x0, x1, x2]) (hg : w.heap.size ≤ g) (l1 : (dig q.num.natAbs).length ≤ c) (l2 : (dig q.den).length ≤ cd) (n1 : NatB w2 A (dig q.num.natAbs)) (n2 : NatB w2 D (dig q.den)) (hb : Below w.heap.size w w2) :
    Blk (((w2.setCell ⟨g, 0, none⟩ (.bool (decide (q.num < 0)))).setCell ⟨g, 1, none⟩ (.slice A (dig q.num.natAbs).length c)).setCell ⟨g, 2, none⟩ (.slice D (dig q.den).length cd)) g 33 #[.bool (decide (q.num < 0)), .slice A (dig q.num.natAbs).length c, .slice D (dig q.den).length cd] ∧
    RatRes q w (.returned (.agg #[.bool (decide (q.num < 0)), .slice A (dig q.num.natAbs).length c, .slice D (dig q.den).length cd])) (((w2.setCell ⟨g, 0, none⟩ (.bool (decide (q.num < 0)))).setCell ⟨g, 1, none⟩ (.slice A (dig q.num.natAbs).length c)).setCell ⟨g, 2, none⟩ (.slice D (dig q.den).length cd)) :=
  ⟨((hk.set_ 0 _).set_ 1 _).set_ 2 _, A, c, D, cd, rfl, l1, l2, NatB.keepTwo hk (by decide) _ _ _ n1, NatB.keepTwo hk (by decide) _ _ _ n2, ((hb.setCell (p := ⟨g, 0, none⟩) hg _).setCell (p := ⟨g, 1, none⟩) hg _).setCell (p := ⟨g, 2, none⟩) hg _⟩
set_option maxHeartbeats 1000000 in
set_option maxRecDepth 100000 in
theorem ROf_any (z : Int) (h0 : -9223372036854775808 ≤ z) (h1 : z ≤ 9223372036854775807) (w : World) : Calls Tryz.prog 22 #[.int .i64 z] w (RatRes (z : Rat) w) := by
  have hb0 := (Below.refl w.heap.size w).alloc (Nat.le_refl _) (.cells #[.bool false, .slice none 0 0, .slice none 0 0] 33)
  have HI := Lib.hid (IOf_any z h0 h1 (w.alloc (.cells #[.bool false, .slice none 0 0, .slice none 0 0] 33)))
  have HK0 := Lib.hid (Blk.new w 33 #[.bool false, .slice none 0 0, .slice none 0 0])
  have HB0 := Lib.hid hb0
  have hz2 : (dig z.natAbs).length ≤ 2 := len_two (by omega)
  have HRF := Lib.hid (fun (W : World) (A : Option Addr) (c : Nat) (hc : (dig z.natAbs).length ≤ c) (hn : NatB W A (dig z.natAbs)) => RFrom_any (decide (z < 0)) A c W.heap.size (dig z.natAbs) W (Nat.le_refl _) (natB_nin hn hc) (by omega))
  rw [ival_dig] at HRF
  unfold IntRes at HI
  have HFIN := Lib.hid (fun (w2 : World) (A D : Option Addr) (c cd : Nat) (hk : Blk w2 w.heap.size 33 #[.bool false, .slice none 0 0, .slice none 0 0]) l1 l2 n1 n2 hb => RatFin (q := (z : Rat)) (w := w) (w2 := w2) (g := w.heap.size) (A := A) (D := D) (c := c) (cd := cd) hk (Nat.le_refl _) l1 l2 n1 n2 hb)
  unfold RatRes at HRF
  generalize RatRes ((z : Int) : Rat) w = Post at *
  generalize ((z : Int) : Rat) = q at *
  clear hb0 hz2 h0 h1
  go_enter Tryz.func22, Tryz.ntmps22
  go_wp2_with fail
  refine HI.out.mono ?_
  rintro e w1 ⟨A1, c1, rfl, l1, n1, hb1⟩
  have HR1 := Lib.hid (HRF.out w1 A1 c1 l1 n1)
  have HB1 := Lib.hid (HB0.out.trans (hb1.mono HB0.out.size))
  have HK1 := Lib.hid (HK0.out.old hb1)
  clear hb1 n1 l1 HI HRF HB0 HK0
  go_wp2_with fail
  refine HR1.out.mono ?_
  rintro e w2 ⟨A2, c2, D2, e2, rfl, l2, l3, n2, n3, hb2⟩
  have hk := HK1.out.old hb2
  have d0 := hk.cell 0; have d1 := hk.cell 1; have d2 := hk.cell 2
  have f0 := hk.frozen 0; have f1 := hk.frozen 1; have f2 := hk.frozen 2
  have z0 := hk.lt
  have HF := Lib.hid (HFIN.out w2 A2 D2 c2 e2 hk l2 l3 n2 n3 (HB1.out.trans (hb2.mono HB1.out.size)))
  clear hk hb2 l2 l3 n2 n3 HFIN
  go_wp2_with fail
  exact ret_blk Tryz.results22 rfl rfl HF.out.1 Tryz.underlying33 rfl Tryz.sizeRat HF.out.2
/-- numerator and denominator -/
def PartsRes (ng : Bool) (ds es : List Nat) (w : World) (e : Ending) (w' : World) : Prop :=
  ∃ (ng' : Bool) (ds' es' : List Nat) (A : Option Addr) (c : Nat) (D : Option Addr) (cd : Nat), e = .returned (.tuple #[.agg #[.bool ng', .slice A ds'.length c], .agg #[.bool false, .slice D es'.length cd]]) ∧
    NatIn w' w'.heap.size A c ds' ∧ NatIn w' w'.heap.size D cd es' ∧ val es' ≠ 0 ∧ mkRat (ival ng' ds') (val es') = mkRat (ival ng ds) (val es) ∧ ds'.length ≤ ds.length ∧ es'.length ≤ max es.length 1 ∧ Below w.heap.size w w'
theorem results_cell2 {P : Program} {fn : Func} {p q : Tmp} {ty : TypeId} (h : fn.results = #[.cell p ty, .cell q ty]) (tmps : Array Value) (w : World) (g g' : Nat) (t : TypeId) (cs cs' : Array Value) (d : TypeDesc)
    (hp : tmps.getD p undef = .pointer (some ⟨g, 0, none⟩)) (hq : tmps.getD q undef = .pointer (some ⟨g', 0, none⟩)) (hc : Blk w g t cs) (hc' : Blk w g' t cs')
    (hu : P.underlying ty = some d) (hd : (match d with | .struct _ | .array _ _ => true | _ => false) = true) (hi : (P.info? ty).map (·.size) = some cs.size) (hi' : (P.info? ty).map (·.size) = some cs'.size) :
    (results fn tmps).run P w = .ok (.tuple #[.agg cs, .agg cs']) w := by
  have hp' : tmps[p]?.getD undef = .pointer (some ⟨g, 0, none⟩) := by simpa using hp
  have hq' : tmps[q]?.getD undef = .pointer (some ⟨g', 0, none⟩) := by simpa using hq
  simp [results, h, hp', hq', asAddr, run_loadVar_row w g t ty cs (0, 0) d hc hu hd hi, run_loadVar_row w g' t ty cs' (0, 0) d hc' hu hd hi']
theorem PartsRes.zero {ng : Bool} {ds es : List Nat} {w w' : World} {A : Option Addr} {c : Nat} (hz : val es = 0) (hc : 1 ≤ c) (hn : NatB w' A [1]) (hb : Below w.heap.size w w') :
    PartsRes ng ds es w (.returned (.tuple #[.agg #[.bool false, .slice none 0 0], .agg #[.bool false, .slice A 1 c]])) w' :=
  ⟨false, [], [1], none, 0, A, c, rfl, ⟨Reads.none_, by simp [Dig], Nat.le_refl _⟩, ⟨hn.reads, by simp [Dig], hc⟩, by simp [val], by rw [hz, Rat.mkRat_zero]; simp [ival, val], by simp, by simp; omega, hb⟩
theorem PartsRes.same {ng : Bool} {ds es : List Nat} {w w' : World} {A : Option Addr} {c : Nat} {D : Option Addr} {cd : Nat} (hz : val es ≠ 0) (h : NatIn w' w'.heap.size A c ds) (h' : NatIn w' w'.heap.size D cd es) (hb : Below w.heap.size w w') :
    PartsRes ng ds es w (.returned (.tuple #[.agg #[.bool ng, .slice A ds.length c], .agg #[.bool false, .slice D es.length cd]])) w' :=
  ⟨ng, ds, es, A, c, D, cd, rfl, h, h', hz, rfl, Nat.le_refl _, by omega, hb⟩
theorem NatIn.sets {w : World} {g o : Nat} {v : Value} {A : Option Addr} {c B : Nat} {ds : List Nat} (h : NatIn w B A c ds) (hg : B ≤ g) : NatIn (w.setCell ⟨g, o, none⟩ v) B A c ds :=
  h.below ((Below.refl B w).setCell (p := ⟨g, o, none⟩) hg v)
set_option maxHeartbeats 2000000 in
set_option maxRecDepth 100000 in
theorem parts_any (ng : Bool) (A : Option Addr) (c B : Nat) (ds : List Nat) (D : Option Addr) (cd : Nat) (es : List Nat) (w : World) (hB : B ≤ w.heap.size) (h : NatIn w B A c ds) (h' : NatIn w B D cd es) (hm' : es.length ≤ 1000000) :
    Calls Tryz.prog 38 #[.agg #[.bool ng, .slice A ds.length c, .slice D es.length cd]] w (PartsRes ng ds es w) := by
  obtain ⟨hb0, k0, k1, k2, hs⟩ := boxes3 w 33 31 31 #[.bool ng, .slice A ds.length c, .slice D es.length cd] #[.bool false, .slice none 0 0] #[.bool false, .slice none 0 0]
  have hZ := IsZero_any D cd B es _ h'.cap hm' (h'.rd.below (hb0.mono hB)) h'.dg
  have HK0 := Lib.hid k0; have HK1 := Lib.hid k1; have HK2 := Lib.hid (show Blk _ (w.heap.size + 1 + 1) _ _ from k2); have HB0 := Lib.hid hb0
  by_cases hz : val es = 0
  · rw [show (val es == 0) = true by simp [hz]] at hZ
    have HZ := Lib.hid hZ
    have HO := Lib.hid (fun (W : World) => IOf_any 1 (by omega) (by omega) W)
    unfold IntRes at HO
    rw [show (1 : Int).natAbs = 1 from rfl, dig_one', show decide ((1 : Int) < 0) = false from rfl] at HO
    have HPR := Lib.hid (fun (W : World) (A1 : Option Addr) (c1 : Nat) (hc : 1 ≤ c1) (hn : NatB W A1 [1]) (hb : Below w.heap.size w W) => PartsRes.zero (ng := ng) (ds := ds) hz hc hn hb)
    generalize PartsRes ng ds es w = Post at *
    generalize ds.length = n at *
    generalize es.length = m at *
    clear h h' hb0 k0 k1 k2 hs hZ hz hm' hB
    go_enter Tryz.func38, Tryz.ntmps38
    go_wp2_with fail
    generalize ((w.alloc (.cells #[.bool ng, .slice A n c, .slice D m cd] 33)).alloc (.cells #[.bool false, .slice none 0 0] 31)).alloc (.cells #[.bool false, .slice none 0 0] 31) = W0 at *
    refine HZ.out.mono ?_
    rintro e w1 ⟨rfl, rfl⟩
    go_wp2_with fail
    refine (HO.out W0).mono ?_
    rintro e w2 ⟨A2, c2, rfl, l2, n2, hb2⟩
    have hk1 := HK1.out.old hb2; have hk2 := HK2.out.old hb2
    obtain ⟨x1, x2, xn⟩ := two_rows hk1 hk2 (Nat.ne_of_lt (Nat.lt_succ_self _)) (.bool false) (.slice none 0 0) (.bool false) (.slice A2 1 c2)
    have HX1 := Lib.hid x1; have HX2 := Lib.hid x2; have HXN := Lib.hid (xn _ _ n2); have HL2 := Lib.hid l2
    have HBF := Lib.hid (((((HB0.out.trans (hb2.mono HB0.out.size)).setCell (p := ⟨w.heap.size + 1, 0, none⟩) (Nat.le_succ _) (.bool false)).setCell (p := ⟨w.heap.size + 1, 1, none⟩) (Nat.le_succ _) (.slice none 0 0)).setCell (p := ⟨w.heap.size + 1 + 1, 0, none⟩) (Nat.le_succ_of_le (Nat.le_succ _)) (.bool false)).setCell (p := ⟨w.heap.size + 1 + 1, 1, none⟩) (Nat.le_succ_of_le (Nat.le_succ _)) (.slice A2 1 c2))
    have d0 := hk1.cell 0; have d1 := hk1.cell 1; have d2 := hk2.cell 0; have d3 := hk2.cell 1
    have f0 := hk1.frozen 0; have f1 := hk1.frozen 1; have f2 := hk2.frozen 0; have f3 := hk2.frozen 1
    have z0 := hk1.lt; have z1 := hk2.lt
    clear hk1 hk2 x1 x2 xn n2 l2 hb2
    go_wp2_with fail
    refine bodyPost_ret (results_cell2 Tryz.results38 _ _ _ _ _ _ _ _ rfl rfl HX1.out HX2.out Tryz.underlying31 rfl Tryz.sizeInt Tryz.sizeInt) rfl ?_
    exact HPR.out _ _ _ HL2.out HXN.out HBF.out
  · rw [show (val es == 0) = false by simp [hz]] at hZ
    have HZ := Lib.hid hZ
    have HPR := Lib.hid (fun (W : World) (hn : NatIn W W.heap.size A c ds) (hn' : NatIn W W.heap.size D cd es) (hb : Below w.heap.size w W) => PartsRes.same (ng := ng) hz hn hn' hb)
    have HIN := Lib.hid (fun (W : World) (hW : Below w.heap.size w W) => And.intro ((h.below (hW.mono hB)).more (Nat.le_trans hB hW.size)) ((h'.below (hW.mono hB)).more (Nat.le_trans hB hW.size)))
    generalize PartsRes ng ds es w = Post at *
    generalize ds.length = n at *
    generalize es.length = m at *
    clear h h' hb0 k0 k1 k2 hs hZ hz hm' hB
    go_enter Tryz.func38, Tryz.ntmps38
    go_wp2_with fail
    generalize ((w.alloc (.cells #[.bool ng, .slice A n c, .slice D m cd] 33)).alloc (.cells #[.bool false, .slice none 0 0] 31)).alloc (.cells #[.bool false, .slice none 0 0] 31) = W0 at *
    refine HZ.out.mono ?_
    rintro e w1 ⟨rfl, rfl⟩
    have hk0 := HK0.out; have hk1 := HK1.out; have hk2 := HK2.out
    obtain ⟨x1, x2, xn⟩ := two_rows hk1 hk2 (Nat.ne_of_lt (Nat.lt_succ_self _)) (.bool ng) (.slice A n c) (.bool false) (.slice D m cd)
    have HX1 := Lib.hid x1; have HX2 := Lib.hid x2
    have HBF := Lib.hid ((((HB0.out.setCell (p := ⟨w.heap.size + 1, 0, none⟩) (Nat.le_succ _) (.bool ng)).setCell (p := ⟨w.heap.size + 1, 1, none⟩) (Nat.le_succ _) (.slice A n c)).setCell (p := ⟨w.heap.size + 1 + 1, 0, none⟩) (Nat.le_succ_of_le (Nat.le_succ _)) (.bool false)).setCell (p := ⟨w.heap.size + 1 + 1, 1, none⟩) (Nat.le_succ_of_le (Nat.le_succ _)) (.slice D m cd))
    have a0 := hk0.cell 0; have a1 := hk0.cell 1; have a2 := hk0.cell 2
    have d0 := hk1.cell 0; have d1 := hk1.cell 1; have d2 := hk2.cell 0; have d3 := hk2.cell 1
    have f0 := hk1.frozen 0; have f1 := hk1.frozen 1; have f2 := hk2.frozen 0; have f3 := hk2.frozen 1
    have z0 := hk1.lt; have z1 := hk2.lt
    clear hk0 hk1 hk2 x1 x2 xn
    go_wp2_with fail
    go_region
    go_wp2_with fail
    refine bodyPost_ret (results_cell2 Tryz.results38 _ _ _ _ _ _ _ _ rfl rfl HX1.out HX2.out Tryz.underlying31 rfl Tryz.sizeInt Tryz.sizeInt) rfl ?_
    have hbd := HBF.out.trans ((Drawn.drew _).below _)
    exact HPR.out _ (HIN.out _ hbd).1 (HIN.out _ hbd).2 hbd
theorem mkRat_scale (n : Int) {d : Nat} (hd : d ≠ 0) : ∃ k : Nat, k ≠ 0 ∧ n = (mkRat n d).num * k ∧ d = (mkRat n d).den * k := by
  obtain ⟨k, h1, h2, h3⟩ := Rat.normalize_num_den' n d hd
  rw [Rat.normalize_eq_mkRat hd] at h2 h3
  exact ⟨k, h1, h2, h3⟩
theorem sgn_mkRat (n : Int) {d : Nat} (hd : d ≠ 0) : sgnOf (mkRat n d).num = sgnOf n := by
  obtain ⟨k, h1, h2, _⟩ := mkRat_scale n hd
  have hk : (0 : Int) < (k : Int) := by omega
  generalize (mkRat n d).num = z at *
  subst h2
  unfold sgnOf
  rcases Int.lt_trichotomy z 0 with h | h | h
  · have := Int.mul_neg_of_neg_of_pos h hk
    rw [if_pos h, if_pos this]
  · subst h; simp
  · have := Int.mul_pos h hk
    rw [if_neg (by omega), if_neg (by omega), if_neg (by omega), if_neg (by omega)]
set_option maxHeartbeats 2000000 in
set_option maxRecDepth 100000 in
theorem RSign_any (ng : Bool) (A : Option Addr) (c B : Nat) (ds : List Nat) (D : Option Addr) (cd : Nat) (es : List Nat) (w : World) (hB : B ≤ w.heap.size) (h : NatIn w B A c ds) (h' : NatIn w B D cd es) (hm : ds.length ≤ 1000000) (hm' : es.length ≤ 1000000) :
    Calls Tryz.prog 74 #[.agg #[.bool ng, .slice A ds.length c, .slice D es.length cd]] w fun e w' => e = .returned (.int .i64 (sgnOf (mkRat (ival ng ds) (val es)).num)) ∧ Below w.heap.size w w' := by
  have hb0 := (Below.refl w.heap.size w).alloc (Nat.le_refl _) (.cells #[.bool ng, .slice A ds.length c, .slice D es.length cd] 33)
  have hp := parts_any ng A c B ds D cd es _ (Nat.le_trans hB hb0.size) (h.below (hb0.mono hB)) (h'.below (hb0.mono hB)) hm'
  unfold PartsRes at hp
  have HP := Lib.hid hp
  have HB0 := Lib.hid hb0
  have HL := Lib.hid hm
  generalize mkRat (ival ng ds) (val es) = q at *
  generalize ds.length = n at *
  generalize es.length = m at *
  clear h h' hb0 hm hm' hp
  go_enter Tryz.func74, Tryz.ntmps74
  go_wp2_with fail
  refine HP.out.mono ?_
  rintro e w1 ⟨ng1, ds1, es1, A1, c1, D1, e1, rfl, h1, h2, h3, h4, h5, _, hb1⟩
  obtain ⟨hbb, k0, k1, _⟩ := boxes2 w1 31 31 #[.bool ng1, .slice A1 ds1.length c1] #[.bool false, .slice D1 es1.length e1]
  have HS := Lib.hid (Sign_any ng1 A1 c1 w1.heap.size ds1 _ hbb.size (h1.below hbb) (by have := HL.out; omega))
  have HQ := Lib.hid (show sgnOf (ival ng1 ds1) = sgnOf q.num by rw [← h4, sgn_mkRat _ h3])
  have HBB := Lib.hid ((HB0.out.trans (hb1.mono HB0.out.size)).trans (hbb.mono (Nat.le_trans HB0.out.size hb1.size)))
  have d0 := k0.cell 0; have d1 := k0.cell 1
  clear h1 h2 h3 h4 h5 hb1 hbb k0 k1 HP HB0
  generalize ds1.length = n1 at *
  generalize es1.length = m1 at *
  go_wp2_with fail
  refine HS.out.mono ?_
  rintro e w3 ⟨rfl, rfl⟩
  go_wp2_with fail
  go_ret
  exact ⟨by rw [HQ.out]; rfl, HBB.out.alloc HBB.out.size _⟩
end Go.Proofs.YtpbapoanjkekmaaGreat

/- Contracts of the package rational: reduce. -/
namespace Go.Proofs.YtpbapoanjkekmaaGreat
open Go.RowKit

theorem Gcd_nat (ng : Bool) (A D : Option Addr) (c cd B : Nat) (ds es : List Nat) (w : World) (hB : B ≤ w.heap.size) (h : NatIn w B A c ds) (h' : NatIn w B D cd es) (hm : ds.length ≤ 400000) (hm' : es.length ≤ 400000) :
    Calls Tryz.prog 60 #[.agg #[.bool ng, .slice A ds.length c], .agg #[.bool false, .slice D es.length cd]] w fun e w' => ∃ A c, e = .returned (.agg #[.bool false, .slice A (dig (Nat.gcd (val ds) (val es))).length c]) ∧ (dig (Nat.gcd (val ds) (val es))).length ≤ c ∧ NatB w' A (dig (Nat.gcd (val ds) (val es))) ∧ Below w.heap.size w w' := by
  refine (Gcd_any ng false A D c cd B ds es w hB h h' hm hm').mono ?_
  rintro e w' ⟨A1, c1, h1, h2, h3, h4⟩
  have e0 : decide (((Nat.gcd (val ds) (val es) : Nat) : Int) < 0) = false := by simp
  rw [e0, Int.natAbs_natCast] at h1
  rw [Int.natAbs_natCast] at h2 h3
  exact ⟨A1, c1, h1, h2, h3, h4⟩
theorem red_num {ng : Bool} {ds es : List Nat} (hz : val es ≠ 0) : ival (!ng == false) (dig (val ds / val (dig (Nat.gcd (val ds) (val es))))) = (mkRat (ival ng ds) (val es)).num := by
  have hg : Nat.gcd (val ds) (val es) ≠ 0 := Nat.gcd_ne_zero_right hz
  have h1 := ival_quot (ng := ng) (ng' := false) (ds := ds) (es := dig (Nat.gcd (val ds) (val es)))
  have e1 : ival false (dig (Nat.gcd (val ds) (val es))) = ((Nat.gcd (val ds) (val es) : Nat) : Int) := by unfold ival; rw [if_neg (by simp), val_dig]
  rw [e1] at h1
  have h2 := (h1 (by rw [← Int.natAbs_dvd_natAbs, ival_abs, Int.natAbs_natCast]; exact Nat.gcd_dvd_left _ _) (by omega)).1
  rw [h2, Rat.num_mkRat, if_neg hz, ival_abs, Nat.gcd_comm]
theorem red_den {ng : Bool} {ds es : List Nat} (hz : val es ≠ 0) : ival (!false == false) (dig (val es / val (dig (Nat.gcd (val ds) (val es))))) = (((mkRat (ival ng ds) (val es)).den : Nat) : Int) := by
  rw [Rat.den_mkRat, if_neg hz, ival_abs, Nat.gcd_comm (val es), val_dig]
  unfold ival
  rw [if_neg (by simp), val_dig]
/-- Quo, said of the quotient alone -/
theorem Quo_q (ng ng' : Bool) (A A' : Option Addr) (c c' B : Nat) (ds es : List Nat) (w : World) (z : Int) (hB : B ≤ w.heap.size) (h : NatIn w B A c ds) (h' : NatIn w B A' c' es) (hm : ds.length ≤ 400000) (hm' : es.length ≤ 400000) (hy : val es ≠ 0) (hz : ival (!ng == ng') (dig (val ds / val es)) = z) :
    Calls Tryz.prog 61 #[.agg #[.bool ng, .slice A ds.length c], .agg #[.bool ng', .slice A' es.length c']] w fun e w' => ∃ A c r, e = .returned (.tuple #[.agg #[.bool (decide (z < 0)), .slice A (dig z.natAbs).length c], r, .int .i64 0]) ∧ (dig z.natAbs).length ≤ c ∧ NatB w' A (dig z.natAbs) ∧ Below w.heap.size w w' := by
  refine (Quo_any ng ng' A A' c c' B ds es w hB h h' hm hm' hy).mono ?_
  rintro e w' ⟨A1, c1, A2, c2, h1, h2, h3, h4, h5, h6⟩
  rw [hz] at h1 h2 h4
  exact ⟨A1, c1, _, h1, h2, h4, h6⟩
set_option maxHeartbeats 2000000 in
set_option maxRecDepth 100000 in
theorem reduce_any (ng : Bool) (A : Option Addr) (c B : Nat) (ds : List Nat) (D : Option Addr) (cd : Nat) (es : List Nat) (w : World) (hB : B ≤ w.heap.size) (h : NatIn w B A c ds) (h' : NatIn w B D cd es) (hm : ds.length ≤ 400000) (hm' : es.length ≤ 400000) (hz : val es ≠ 0) :
    Calls Tryz.prog 39 #[.agg #[.bool ng, .slice A ds.length c], .agg #[.bool false, .slice D es.length cd]] w (RatRes (mkRat (ival ng ds) (val es)) w) := by
  obtain ⟨hb0, k0, k1, k2, hs⟩ := boxes3 w 31 31 33 #[.bool ng, .slice A ds.length c] #[.bool false, .slice D es.length cd] #[.bool false, .slice none 0 0, .slice none 0 0]
  have HG := Lib.hid (Gcd_nat ng A D c cd B ds es _ (Nat.le_trans hB hb0.size) (h.below (hb0.mono hB)) (h'.below (hb0.mono hB)) hm hm')
  have hgl : (dig (Nat.gcd (val ds) (val es))).length ≤ 400000 := Nat.le_trans (dig_mono (Nat.gcd_le_right _ (by omega))) (Nat.le_trans (dig_len_le h'.dg) hm')
  have hg0 : val (dig (Nat.gcd (val ds) (val es))) ≠ 0 := by rw [val_dig]; exact Nat.gcd_ne_zero_right hz
  have HQ1 := Lib.hid (fun (W : World) (Ag : Option Addr) (cg : Nat) (hW : Below w.heap.size w W) (hc : (dig (Nat.gcd (val ds) (val es))).length ≤ cg) (hn : NatB W Ag (dig (Nat.gcd (val ds) (val es)))) =>
    Quo_q ng false A Ag c cg W.heap.size ds _ W _ (Nat.le_refl _) ((h.below (hW.mono hB)).more (Nat.le_trans hB hW.size)) (natB_nin hn hc) hm hgl hg0 (red_num hz))
  have HQ2 := Lib.hid (fun (W : World) (Ag : Option Addr) (cg : Nat) (hW : Below w.heap.size w W) (hc : (dig (Nat.gcd (val ds) (val es))).length ≤ cg) (hn : NatB W Ag (dig (Nat.gcd (val ds) (val es)))) =>
    Quo_q false false D Ag cd cg W.heap.size es _ W _ (Nat.le_refl _) ((h'.below (hW.mono hB)).more (Nat.le_trans hB hW.size)) (natB_nin hn hc) hm' hgl hg0 (red_den (ng := ng) (ds := ds) hz))
  generalize mkRat (ival ng ds) (val es) = q at *
  rw [Int.natAbs_natCast, show decide (((q.den : Nat) : Int) < 0) = false by simp] at HQ2
  generalize Nat.gcd (val ds) (val es) = G at *
  have HFIN := Lib.hid (fun (w2 : World) (A D : Option Addr) (c cd : Nat) (hk : Blk w2 (w.heap.size + 1 + 1) 33 #[.bool false, .slice none 0 0, .slice none 0 0]) l1 l2 n1 n2 hb => RatFin (q := q) (w := w) (w2 := w2) (g := w.heap.size + 1 + 1) (A := A) (D := D) (c := c) (cd := cd) hk (Nat.le_succ_of_le (Nat.le_succ _)) l1 l2 n1 n2 hb)
  have HB0 := Lib.hid hb0; have HK0 := Lib.hid k0; have HK1 := Lib.hid k1; have HK2 := Lib.hid (show Blk _ (w.heap.size + 1 + 1) _ _ from k2)
  generalize RatRes q w = Post at *
  clear h h' hb0 k0 k1 k2 hs hm hm' hz hgl hg0
  generalize ds.length = n at *
  generalize es.length = m at *
  go_enter Tryz.func39, Tryz.ntmps39
  go_wp2_with fail
  generalize ((w.alloc (.cells #[.bool ng, .slice A n c] 31)).alloc (.cells #[.bool false, .slice D m cd] 31)).alloc (.cells #[.bool false, .slice none 0 0, .slice none 0 0] 33) = W0 at *
  refine HG.out.mono ?_
  rintro e w1 ⟨Ag, cg, rfl, lg, ng1, hb1⟩
  have hal := (Below.refl w1.heap.size w1).alloc (Nat.le_refl _) (.cells #[.bool false, .slice Ag (dig G).length cg] 31)
  have hb1a := hb1.trans (hal.mono hb1.size)
  have HB1 := Lib.hid (HB0.out.trans (hb1a.mono HB0.out.size))
  have hj0 := HK0.out.old hb1a; have hj1 := HK1.out.old hb1a; have HJ2 := Lib.hid (HK2.out.old hb1a)
  have hjg := Blk.new w1 31 #[.bool false, .slice Ag (dig G).length cg]
  have HNG := Lib.hid (ng1.old hal); have HLG := Lib.hid lg
  have HLT := Lib.hid (show w.heap.size + 1 + 1 < w1.heap.size from (HK2.out.old hb1).lt)
  clear hb1 hal hb1a ng1 lg HG HK0 HK1 HK2 HB0
  go_upto_region 2 with (fail)
  generalize w1.alloc (.cells #[.bool false, .slice Ag (dig G).length cg] 31) = W1 at *
  generalize w1.heap.size = gg at *
  have HQ1' := Lib.hid (HQ1.out W1 Ag cg HB1.out HLG.out HNG.out)
  have HJ0 := Lib.hid hj0; have HJ1 := Lib.hid hj1; have HJG := Lib.hid hjg
  have a0 := hj0.cell 0; have a1 := hj0.cell 1; have b0 := hjg.cell 0; have b1 := hjg.cell 1
  clear hj0 hj1 hjg HQ1
  go_wp2_with fail
  refine HQ1'.out.mono ?_
  rintro e w2 ⟨A2, c2, r2, rfl, l2, n2, hb2⟩
  have hj0 := HJ0.out.old hb2; have hj1 := HJ1.out.old hb2; have hj2 := HJ2.out.old hb2; have hjg := HJG.out.old hb2
  have f0 := hj0.frozen 0; have f1 := hj0.frozen 1
  have d0 := hj0.cell 0; have d1 := hj0.cell 1
  have z0 := hj0.lt
  have HP0 := Lib.hid ((hj0.set_ 0 (.bool (decide (q.num < 0)))).set_ 1 (.slice A2 (dig q.num.natAbs).length c2))
  have HP1 := Lib.hid ((hj1.far (p := ⟨w.heap.size, 0, none⟩) (show w.heap.size + 1 ≠ w.heap.size by omega) (.bool (decide (q.num < 0)))).far (p := ⟨w.heap.size, 1, none⟩) (show w.heap.size + 1 ≠ w.heap.size by omega) (.slice A2 (dig q.num.natAbs).length c2))
  have HP2 := Lib.hid ((hj2.far (p := ⟨w.heap.size, 0, none⟩) (show w.heap.size + 1 + 1 ≠ w.heap.size by omega) (.bool (decide (q.num < 0)))).far (p := ⟨w.heap.size, 1, none⟩) (show w.heap.size + 1 + 1 ≠ w.heap.size by omega) (.slice A2 (dig q.num.natAbs).length c2))
  have HPG := Lib.hid ((hjg.far (p := ⟨w.heap.size, 0, none⟩) (show gg ≠ w.heap.size by have := HLT.out; omega) (.bool (decide (q.num < 0)))).far (p := ⟨w.heap.size, 1, none⟩) (show gg ≠ w.heap.size by have := HLT.out; omega) (.slice A2 (dig q.num.natAbs).length c2))
  have HN2 := Lib.hid (n2.store2 hj0 (by decide) (.bool (decide (q.num < 0))) (.slice A2 (dig q.num.natAbs).length c2))
  have HNG2 := Lib.hid ((HNG.out.old hb2).store2 hj0 (by decide) (.bool (decide (q.num < 0))) (.slice A2 (dig q.num.natAbs).length c2))
  have HL2 := Lib.hid l2
  have HB2 := Lib.hid (((HB1.out.trans (hb2.mono HB1.out.size)).setCell (p := ⟨w.heap.size, 0, none⟩) (Nat.le_refl _) (.bool (decide (q.num < 0)))).setCell (p := ⟨w.heap.size, 1, none⟩) (Nat.le_refl _) (.slice A2 (dig q.num.natAbs).length c2))
  clear hj0 hj1 hj2 hjg l2 n2 hb2 HJ0 HJ1 HJ2 HJG HNG HQ1' HB1 a0 a1 b0 b1
  go_upto_region 3 with (fail)
  generalize (w2.setCell ⟨w.heap.size, 0, none⟩ (.bool (decide (q.num < 0)))).setCell ⟨w.heap.size, 1, none⟩ (.slice A2 (dig q.num.natAbs).length c2) = W2 at *
  have HQ2' := Lib.hid (HQ2.out W2 Ag cg HB2.out HLG.out HNG2.out)
  clear HQ2 f0 f1 d0 d1 z0
  have a0 := HP1.out.cell 0; have a1 := HP1.out.cell 1; have b0 := HPG.out.cell 0; have b1 := HPG.out.cell 1
  go_wp2_with fail
  refine HQ2'.out.mono ?_
  rintro e w3 ⟨A3, c3, r3, rfl, l3, n3, hb3⟩
  have hj0 := HP0.out.old hb3; have hj1 := HP1.out.old hb3; have hj2 := HP2.out.old hb3
  have f0 := hj1.frozen 0; have f1 := hj1.frozen 1
  have d0 := hj1.cell 0; have d1 := hj1.cell 1
  have z0 := hj1.lt
  have HS0 := Lib.hid ((hj0.far (p := ⟨w.heap.size + 1, 0, none⟩) (show w.heap.size ≠ w.heap.size + 1 by omega) (.bool false)).far (p := ⟨w.heap.size + 1, 1, none⟩) (show w.heap.size ≠ w.heap.size + 1 by omega) (.slice A3 (dig q.den).length c3))
  have HS1 := Lib.hid ((hj1.set_ 0 (.bool false)).set_ 1 (.slice A3 (dig q.den).length c3))
  have HS2 := Lib.hid ((hj2.far (p := ⟨w.heap.size + 1, 0, none⟩) (show w.heap.size + 1 + 1 ≠ w.heap.size + 1 by omega) (.bool false)).far (p := ⟨w.heap.size + 1, 1, none⟩) (show w.heap.size + 1 + 1 ≠ w.heap.size + 1 by omega) (.slice A3 (dig q.den).length c3))
  have HN3 := Lib.hid (n3.store2 hj1 (by decide) (.bool false) (.slice A3 (dig q.den).length c3))
  have HN2' := Lib.hid ((HN2.out.old hb3).store2 hj1 (by decide) (.bool false) (.slice A3 (dig q.den).length c3))
  have HL3 := Lib.hid l3
  have HB3 := Lib.hid (((HB2.out.trans (hb3.mono HB2.out.size)).setCell (p := ⟨w.heap.size + 1, 0, none⟩) (Nat.le_succ _) (.bool false)).setCell (p := ⟨w.heap.size + 1, 1, none⟩) (Nat.le_succ _) (.slice A3 (dig q.den).length c3))
  clear hj0 hj1 hj2 l3 n3 hb3 HP0 HP1 HP2 HPG HN2 HNG2 HQ2' HB2 a0 a1 b0 b1
  go_upto_region 4 with (fail)
  generalize (w3.setCell ⟨w.heap.size + 1, 0, none⟩ (.bool false)).setCell ⟨w.heap.size + 1, 1, none⟩ (.slice A3 (dig q.den).length c3) = W3 at *
  clear f0 f1 d0 d1 z0
  have a0 := HS0.out.cell 0; have a1 := HS0.out.cell 1; have b1 := HS1.out.cell 1
  have f0 := HS2.out.frozen 0; have f1 := HS2.out.frozen 1; have f2 := HS2.out.frozen 2
  have d0 := HS2.out.cell 0; have d1 := HS2.out.cell 1; have d2 := HS2.out.cell 2
  have z0 := HS2.out.lt
  have HF := Lib.hid (HFIN.out W3 A2 A3 c2 c3 HS2.out HL2.out HL3.out HN2'.out HN3.out HB3.out)
  clear HFIN
  go_wp2_with fail
  exact ret_blk Tryz.results39 rfl rfl HF.out.1 Tryz.underlying33 rfl Tryz.sizeRat HF.out.2
end Go.Proofs.YtpbapoanjkekmaaGreat
