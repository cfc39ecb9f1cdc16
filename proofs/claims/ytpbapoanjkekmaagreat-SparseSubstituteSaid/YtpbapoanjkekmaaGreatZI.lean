/- Contracts of the package integer: signed, From. -/
import Derived.Deep.RegionHeld3
import Derived.Deep.DrawnRows
import Derived.Test.YtpbapoanjkekmaaGreatZM
namespace Go.Proofs.YtpbapoanjkekmaaGreat
open Go.RowKit

theorem Tryz.sizeInt : (Tryz.prog.info? 31).map (·.size) = some 2 := by kernel_rfl
theorem ret_blk {P : Program} {fn : Func} {Q : Ending → World → Prop} {a : Act} {w : World} {p : Tmp} {ty : TypeId} {g : Nat} {t : TypeId} {cs : Array Value} {d : TypeDesc} (hr : fn.results = #[.cell p ty]) (hdf : a.defers = []) (hp : a.tmps.getD p undef = .pointer (some ⟨g, 0, none⟩)) (hb : Blk w g t cs)
    (hu : P.underlying ty = some d) (hd : (match d with | .struct _ | .array _ _ => true | _ => false) = true) (hi : (P.info? ty).map (·.size) = some cs.size) (h : Q (.returned (.agg cs)) w) : bodyPost P fn Q Exit.ret a w :=
  bodyPost_ret (results_cell_row hr a.tmps w g t cs (0, 0) d hp hb hu hd hi) hdf h

set_option maxHeartbeats 400000 in
theorem signed_any (ng : Bool) (A : Option Addr) (n c : Nat) (w : World) :
    Calls Tryz.prog 62 #[.bool ng, .slice A n c] w fun e w' => e = .returned (.agg #[.bool (ng && decide (0 < n)), .slice A n c]) ∧ Below w.heap.size w w' := by
  cases ng
  · go_enter Tryz.func62, Tryz.ntmps62
    go_wp2
    exact ret_blk Tryz.results62 rfl rfl (Blk.new w _ _) Tryz.underlying31 rfl Tryz.sizeInt ⟨rfl, (Below.refl _ w).alloc (Nat.le_refl _) _⟩
  · by_cases h : 0 < n
    · have hb : decide ((0 : Int) < (n : Int)) = true := by simpa using h
      go_enter Tryz.func62, Tryz.ntmps62
      go_wp2
      exact ret_blk Tryz.results62 rfl rfl (Blk.new w _ _) Tryz.underlying31 rfl Tryz.sizeInt ⟨by simp [h], (Below.refl _ w).alloc (Nat.le_refl _) _⟩
    · obtain rfl : n = 0 := by omega
      go_enter Tryz.func62, Tryz.ntmps62
      go_wp2
      exact ret_blk Tryz.results62 rfl rfl (Blk.new w _ _) Tryz.underlying31 rfl Tryz.sizeInt ⟨rfl, (Below.refl _ w).alloc (Nat.le_refl _) _⟩

theorem NatB.far {w : World} {A : Option Addr} {ds : List Nat} (h : NatB w A ds) {g : Nat} {t : TypeId} {cs : Array Value} (hb : Blk w g t cs) (ht : t ≠ 82) (o : Nat) (u : Value) : NatB (w.setCell ⟨g, o, none⟩ u) A ds :=
  h.keep fun g' cs' k => k.far (by
    rintro rfl
    unfold Blk at k hb
    rw [k] at hb
    injection hb with hb
    injection hb with _ h1
    exact ht h1.symm) u
theorem NatB.store2 {w : World} {A : Option Addr} {ds : List Nat} (h : NatB w A ds) {g : Nat} {t : TypeId} {cs : Array Value} (hb : Blk w g t cs) (ht : t ≠ 82) (u v : Value) : NatB ((w.setCell ⟨g, 0, none⟩ u).setCell ⟨g, 1, none⟩ v) A ds :=
  (h.far hb ht 0 u).far (hb.set_ 0 u) ht 1 v
/-- the value of a sign and digits -/
def ival (ng : Bool) (ds : List Nat) : Int := if ng then -(val ds : Int) else (val ds : Int)
/-- a result: the canonical form of z, in memory -/
def IntRes (z : Int) (w : World) (e : Ending) (w' : World) : Prop :=
  ∃ A c, e = .returned (.agg #[.bool (decide (z < 0)), .slice A (dig z.natAbs).length c]) ∧ (dig z.natAbs).length ≤ c ∧ NatB w' A (dig z.natAbs) ∧ Below w.heap.size w w'
theorem ival_abs (ng : Bool) (ds : List Nat) : (ival ng ds).natAbs = val ds := by unfold ival; cases ng <;> simp
theorem ival_neg (ng : Bool) (ds : List Nat) : decide (ival ng ds < 0) = (ng && decide (0 < (dig (val ds)).length)) := by
  have : 0 < (dig (val ds)).length ↔ 0 < val ds := by
    have := @dig_len0 (val ds)
    omega
  unfold ival
  cases ng <;> simp [this]

set_option maxHeartbeats 400000 in
set_option maxRecDepth 100000 in
theorem From_any (ng : Bool) (A : Option Addr) (c B : Nat) (ds : List Nat) (w : World) (hB : B ≤ w.heap.size) (hc : ds.length ≤ c) (hm : ds.length ≤ 1000000) (hr : Reads w B 1 A ds.length (u32s ds)) (hd : Dig ds) :
    Calls Tryz.prog 69 #[.bool ng, .slice A ds.length c] w (IntRes (ival ng ds) w) := by
  have hbl0 := (Below.refl w.heap.size w).alloc (Nat.le_refl _) (.cells #[.bool false, .slice none 0 0] 31)
  have hn := Normal_any A c B ds _ (by simp; omega) hc hm (hr.below (hbl0.mono hB)) hd
  have e1 := ival_neg ng ds
  have e2 := ival_abs ng ds
  have hblk := Blk.new w 31 #[.bool false, .slice none 0 0]
  unfold IntRes
  rw [e1, e2]
  clear e1 e2
  unfold NatRes at hn
  generalize dig (val ds) = es at *
  have HN := Lib.hid hn
  have HBL := Lib.hid hbl0; have HBK := Lib.hid hblk
  clear hn hbl0 hblk
  go_enter Tryz.func69, Tryz.ntmps69
  go_wp2_with fail
  refine HN.out.mono ?_
  rintro e w1 ⟨A1, c1, rfl, h1, h2, h3⟩
  have hs := signed_any ng A1 es.length c1 w1
  generalize hgg : (ng && decide (0 < es.length)) = g at *
  have HGG := Lib.hid hgg; clear hgg
  have HS := Lib.hid hs; clear hs
  go_wp2_with fail
  refine HS.out.mono ?_
  rintro e w2 ⟨rfl, h4⟩
  have hk := (HBK.out.old h3).old h4
  have d0 : w2.cell? ⟨w.heap.size, 0, none⟩ = some (.bool false) := (hk.cell 0).trans rfl
  have d1 : w2.cell? ⟨w.heap.size, 1, none⟩ = some (.slice none 0 0) := (hk.cell 1).trans rfl
  have f0 := hk.frozen 0
  have f1 := hk.frozen 1
  have z0 := hk.lt
  go_wp2_with fail
  have hnb := h2.old h4
  have hbel := (HBL.out.trans (h3.mono (by simp))).trans (h4.mono (by have := h3.size; simp at this; omega))
  exact ret_blk Tryz.results69 rfl rfl ((hk.set_ 0 _).set_ 1 _) Tryz.underlying31 rfl Tryz.sizeInt ⟨A1, c1, by rw [HGG.out]; rfl, h1, hnb.store2 hk (by decide) _ _, (hbel.setCell (Nat.le_refl _) _).setCell (Nat.le_refl _) _⟩
end Go.Proofs.YtpbapoanjkekmaaGreat

/- Contracts of the package integer: Normal, Of, Sign, Neg. -/
namespace Go.Proofs.YtpbapoanjkekmaaGreat
open Go.RowKit

/-- digits that the call may read: below the block B -/
structure NatIn (w : World) (B : Nat) (A : Option Addr) (c : Nat) (ds : List Nat) : Prop where
  rd : Reads w B 1 A ds.length (u32s ds)
  dg : Dig ds
  cap : ds.length ≤ c
theorem NatIn.below {w w' : World} {B c : Nat} {A : Option Addr} {ds : List Nat} (h : NatIn w B A c ds) (hb : Below B w w') : NatIn w' B A c ds := ⟨h.rd.below hb, h.dg, h.cap⟩
theorem NatIn.more {w : World} {B B' c : Nat} {A : Option Addr} {ds : List Nat} (h : NatIn w B A c ds) (hB : B ≤ B') : NatIn w B' A c ds := ⟨h.rd.more hB, h.dg, h.cap⟩

set_option maxHeartbeats 400000 in
set_option maxRecDepth 100000 in
theorem INormal_any (ng : Bool) (A : Option Addr) (c B : Nat) (ds : List Nat) (w : World) (hB : B ≤ w.heap.size) (h : NatIn w B A c ds) (hm : ds.length ≤ 1000000) :
    Calls Tryz.prog 45 #[.agg #[.bool ng, .slice A ds.length c]] w (IntRes (ival ng ds) w) := by
  have hbl0 := ((Below.refl w.heap.size w).alloc (Nat.le_refl _) (.cells #[.bool ng, .slice A ds.length c] 31)).alloc (by simp) (.cells #[.bool false, .slice none 0 0] 31)
  have hn := From_any ng A c B ds _ (by simp; omega) h.cap hm (h.rd.below (hbl0.mono hB)) h.dg
  have hblk := Blk.new (w.alloc (.cells #[.bool ng, .slice A ds.length c] 31)) 31 #[.bool false, .slice none 0 0]
  rw [show (w.alloc (.cells #[.bool ng, .slice A ds.length c] 31)).heap.size = w.heap.size + 1 by simp] at hblk
  have HN := Lib.hid hn; have HBL := Lib.hid hbl0; have HBK := Lib.hid hblk
  clear hn hbl0 hblk h
  go_enter Tryz.func45, Tryz.ntmps45
  go_wp2_with fail
  refine HN.out.mono ?_
  rintro e w2 ⟨A1, c1, rfl, h1, h2, h3⟩
  generalize hz : ival ng ds = z at *
  generalize he : dig z.natAbs = es at *
  generalize hg : decide (z < 0) = g at *
  have HE := Lib.hid he; have HG := Lib.hid hg; clear he hg hz
  have hk := HBK.out.old h3
  have d0 : w2.cell? ⟨w.heap.size + 1, 0, none⟩ = some (.bool false) := (hk.cell 0).trans rfl
  have d1 : w2.cell? ⟨w.heap.size + 1, 1, none⟩ = some (.slice none 0 0) := (hk.cell 1).trans rfl
  have f0 := hk.frozen 0
  have f1 := hk.frozen 1
  have z0 := hk.lt
  go_wp2_with fail
  have hbel := HBL.out.trans (h3.mono (by simp; omega))
  exact ret_blk Tryz.results45 rfl rfl ((hk.set_ 0 _).set_ 1 _) Tryz.underlying31 rfl Tryz.sizeInt ⟨A1, c1, by rw [HE.out, HG.out]; rfl, by rw [HE.out]; exact h1, by rw [HE.out]; exact h2.store2 hk (by decide) _ _, (hbel.setCell (by show _ ≤ w.heap.size + 1; omega) _).setCell (by show _ ≤ w.heap.size + 1; omega) _⟩

def sgnOf (z : Int) : Int := if z < 0 then -1 else if z = 0 then 0 else 1
set_option maxHeartbeats 400000 in
set_option maxRecDepth 100000 in
theorem Sign_any (ng : Bool) (A : Option Addr) (c B : Nat) (ds : List Nat) (w : World) (hB : B ≤ w.heap.size) (h : NatIn w B A c ds) (hm : ds.length ≤ 1000000) :
    Calls Tryz.prog 44 #[.agg #[.bool ng, .slice A ds.length c]] w fun e w' => e = .returned (.int .i64 (sgnOf (ival ng ds))) ∧ w' = w.alloc (.cells #[.bool ng, .slice A ds.length c] 31) := by
  have hbl0 := (Below.refl w.heap.size w).alloc (Nat.le_refl _) (.cells #[.bool ng, .slice A ds.length c] 31)
  have hn := IsZero_any A c B ds _ h.cap hm (h.rd.below (hbl0.mono hB)) h.dg
  have hv : sgnOf (ival ng ds) = if val ds = 0 then 0 else if ng then -1 else 1 := by
    unfold sgnOf ival
    cases ng
    · by_cases h0 : val ds = 0
      · simp [h0]
      · rw [if_neg h0]; simp; rw [if_neg (by omega), if_neg h0]
    · by_cases h0 : val ds = 0
      · simp [h0]
      · rw [if_neg h0, if_pos rfl, if_pos (by simp; omega)]; rfl
  rw [hv]
  by_cases h0 : val ds = 0
  · have hb : (val ds == 0) = true := by simpa using h0
    rw [if_pos h0]
    rw [hb] at hn
    have HN := Lib.hid hn
    clear hn hb h0 hv h
    go_enter Tryz.func44, Tryz.ntmps44
    go_wp2_with fail
    refine HN.out.mono ?_
    rintro e w2 ⟨rfl, rfl⟩
    go_wp2_with fail
    go_ret
    exact ⟨rfl, rfl⟩
  · have hb : (val ds == 0) = false := by simpa using h0
    rw [if_neg h0]
    rw [hb] at hn
    have HN := Lib.hid hn
    clear hn hb h0 hv h
    cases ng
    · go_enter Tryz.func44, Tryz.ntmps44
      go_wp2_with fail
      refine HN.out.mono ?_
      rintro e w2 ⟨rfl, rfl⟩
      go_wp2_with fail
      go_ret
      exact ⟨rfl, rfl⟩
    · go_enter Tryz.func44, Tryz.ntmps44
      go_wp2_with fail
      refine HN.out.mono ?_
      rintro e w2 ⟨rfl, rfl⟩
      go_wp2_with fail
      go_ret
      exact ⟨rfl, rfl⟩
end Go.Proofs.YtpbapoanjkekmaaGreat

/- Contracts of the package integer: Cmp, Same. -/
namespace Go.Proofs.YtpbapoanjkekmaaGreat
open Go.RowKit

def cmpZ (a b : Int) : Int := if a < b then -1 else if b < a then 1 else 0
theorem cmpZ_zero (a b : Int) : (cmpZ a b == 0) = decide (a = b) := by
  unfold cmpZ
  by_cases h : a < b
  · rw [if_pos h]; simp; omega
  · by_cases h2 : b < a
    · rw [if_neg h, if_pos h2]; simp; omega
    · rw [if_neg h, if_neg h2]; simp; omega
theorem cmpZ_sgn_lt {a b : Int} (h : sgnOf a < sgnOf b) : cmpZ a b = -1 := by
  unfold sgnOf at h
  unfold cmpZ
  rw [if_pos]
  repeat' split at h
  all_goals omega
theorem cmpZ_sgn_gt {a b : Int} (h : sgnOf b < sgnOf a) : cmpZ a b = 1 := by
  unfold sgnOf at h
  unfold cmpZ
  have : b < a := by
    repeat' split at h
    all_goals omega
  rw [if_neg (by omega), if_pos this]
theorem cmpZ_sgn_eq {ng ng' : Bool} {ds es : List Nat} (h : sgnOf (ival ng ds) = sgnOf (ival ng' es)) : cmpZ (ival ng ds) (ival ng' es) = if sgnOf (ival ng ds) < 0 then cmpN (val es) (val ds) else cmpN (val ds) (val es) := by
  unfold cmpZ cmpN
  unfold sgnOf at *
  unfold ival at *
  generalize val ds = x at *
  generalize val es = y at *
  cases ng <;> cases ng' <;> simp only [if_true, if_false, Bool.false_eq_true] at * <;> (repeat' split at h) <;> (repeat' split) <;> omega

set_option maxHeartbeats 1000000 in
set_option maxRecDepth 100000 in
theorem ICmp_any (ng ng' : Bool) (A A' : Option Addr) (c c' B : Nat) (ds es : List Nat) (w : World) (hB : B ≤ w.heap.size) (h : NatIn w B A c ds) (h' : NatIn w B A' c' es) (hm : ds.length ≤ 1000000) (hm' : es.length ≤ 1000000) :
    Calls Tryz.prog 52 #[.agg #[.bool ng, .slice A ds.length c], .agg #[.bool ng', .slice A' es.length c']] w fun e w' => e = .returned (.int .i64 (cmpZ (ival ng ds) (ival ng' es))) ∧ Below w.heap.size w w' := by
  have hsa := fun (W : World) (hb : Below w.heap.size w W) => Sign_any ng A c B ds W (Nat.le_trans hB hb.size) (h.below (hb.mono hB)) hm
  have hsb := fun (W : World) (hb : Below w.heap.size w W) => Sign_any ng' A' c' B es W (Nat.le_trans hB hb.size) (h'.below (hb.mono hB)) hm'
  have HSA := Lib.hid hsa; have HSB := Lib.hid hsb
  clear hsa hsb
  go_enter Tryz.func52, Tryz.ntmps52
  go_upto_region 1 with (fail)
  have hbl0 := ((Below.refl w.heap.size w).alloc (Nat.le_refl _) (.cells #[.bool ng, .slice A ds.length c] 31)).alloc (by simp) (.cells #[.bool ng', .slice A' es.length c'] 31)
  go_cut [5, 6] (fun s t wc => s = .int .i64 (sgnOf (ival ng ds)) ∧ t = .int .i64 (sgnOf (ival ng' es)) ∧ Below (w.heap.size + 2) ((w.alloc (.cells #[.bool ng, .slice A ds.length c] 31)).alloc (.cells #[.bool ng', .slice A' es.length c'] 31)) wc)
  case first =>
    have h1 := HSA.out _ hbl0.drew
    have h2 := HSB.out _ (hbl0.alloc (by simp; omega) (.cells #[.bool ng, .slice A ds.length c] 31)).drew
    have h3 := HSB.out _ hbl0.drew
    have h4 := HSA.out _ (hbl0.alloc (by simp; omega) (.cells #[.bool ng', .slice A' es.length c'] 31)).drew
    have H1 := Lib.hid h1; have H2 := Lib.hid h2; have H3 := Lib.hid h3; have H4 := Lib.hid h4
    clear h1 h2 h3 h4 hbl0 HSA HSB h h'
    generalize sgnOf (ival ng ds) = s1 at *
    generalize sgnOf (ival ng' es) = s2 at *
    go_region_with (go_at_call 44; first | (with_reducible refine H1.out.mono ?_; rintro e w1 ⟨rfl, rfl⟩) | (with_reducible refine H2.out.mono ?_; rintro e w1 ⟨rfl, rfl⟩) | (with_reducible refine H3.out.mono ?_; rintro e w1 ⟨rfl, rfl⟩) | (with_reducible refine H4.out.mono ?_; rintro e w1 ⟨rfl, rfl⟩))
    all_goals (go_wp2_with fail; go_meet; exact ⟨rfl, rfl, by repeat (first | exact Below.refl _ _ | refine Below.drew ?_ | refine Below.alloc ?_ (by simp; try omega) _)⟩)
  case rest =>
    obtain ⟨rfl, rfl, hbc⟩ := hcut
    have hz0 : ((w.alloc (.cells #[.bool ng, .slice A ds.length c] 31)).alloc (.cells #[.bool ng', .slice A' es.length c'] 31)).heap.size = w.heap.size + 2 := by simp
    have hbw := hbl0.trans (hbc.mono (by omega))
    have k1 : Blk wc w.heap.size 31 #[.bool ng, .slice A ds.length c] := ((Blk.new w 31 #[.bool ng, .slice A ds.length c]).alloc _).below hbc (by omega)
    have k2 : Blk wc (w.heap.size + 1) 31 #[.bool ng', .slice A' es.length c'] := by
      have := Blk.new (w.alloc (.cells #[.bool ng, .slice A ds.length c] 31)) 31 #[.bool ng', .slice A' es.length c']
      rw [show (w.alloc (.cells #[.bool ng, .slice A ds.length c] 31)).heap.size = w.heap.size + 1 by simp] at this
      exact this.below hbc (by omega)
    have d1 : wc.cell? ⟨w.heap.size, 1, none⟩ = some (.slice A ds.length c) := (k1.cell 1).trans rfl
    have d2 : wc.cell? ⟨w.heap.size + 1, 1, none⟩ = some (.slice A' es.length c') := (k2.cell 1).trans rfl
    have z1 := k1.lt
    have z2 := k2.lt
    have n1 := h.below (hbw.mono hB)
    have n2 := h'.below (hbw.mono hB)
    have hab := Cmp_any A A' c c' B ds es wc n1.cap n2.cap hm hm' n1.rd n2.rd n1.dg n2.dg
    have hba := Cmp_any A' A c' c B es ds wc n2.cap n1.cap hm' hm n2.rd n1.rd n2.dg n1.dg
    have HAB := Lib.hid hab; have HBA := Lib.hid hba; have HBW := Lib.hid hbw
    clear hab hba k1 k2 n1 n2 h h' hbc hbl0 hz0 HSA HSB hbw
    rcases Int.lt_trichotomy (sgnOf (ival ng ds)) (sgnOf (ival ng' es)) with hs | hs | hs
    · have hv : cmpZ (ival ng ds) (ival ng' es) = -1 := cmpZ_sgn_lt hs
      have HV := Lib.hid hv
      clear hv
      generalize sgnOf (ival ng ds) = s1 at *
      generalize sgnOf (ival ng' es) = s2 at *
      go_wp2_with fail
      go_ret
      exact ⟨by rw [HV.out]; rfl, HBW.out⟩
    · have hv := cmpZ_sgn_eq hs
      have HV := Lib.hid hv
      clear hv
      rw [← hs]
      clear hs
      generalize sgnOf (ival ng ds) = s1 at *
      by_cases h0 : s1 < 0
      · rw [if_pos h0] at HV
        generalize cmpN (val es) (val ds) = r at *
        go_wp2_with fail
        refine HBA.out.mono ?_
        rintro e w2 ⟨rfl, hd⟩
        go_wp2_with fail
        go_ret
        exact ⟨by rw [HV.out]; rfl, HBW.out.trans (hd.below _)⟩
      · rw [if_neg h0] at HV
        generalize cmpN (val ds) (val es) = r at *
        go_wp2_with fail
        refine HAB.out.mono ?_
        rintro e w2 ⟨rfl, hd⟩
        go_wp2_with fail
        go_ret
        exact ⟨by rw [HV.out]; rfl, HBW.out.trans (hd.below _)⟩
    · have hv : cmpZ (ival ng ds) (ival ng' es) = 1 := cmpZ_sgn_gt hs
      have HV := Lib.hid hv
      clear hv
      generalize sgnOf (ival ng ds) = s1 at *
      generalize sgnOf (ival ng' es) = s2 at *
      go_wp2_with fail
      go_ret
      exact ⟨by rw [HV.out]; rfl, HBW.out⟩

set_option maxHeartbeats 1000000 in
set_option maxRecDepth 100000 in
theorem Same_any (ng ng' : Bool) (A A' : Option Addr) (c c' B : Nat) (ds es : List Nat) (w : World) (hB : B ≤ w.heap.size) (h : NatIn w B A c ds) (h' : NatIn w B A' c' es) (hm : ds.length ≤ 1000000) (hm' : es.length ≤ 1000000) :
    Calls Tryz.prog 27 #[.agg #[.bool ng, .slice A ds.length c], .agg #[.bool ng', .slice A' es.length c']] w fun e w' => e = .returned (.bool (decide (ival ng ds = ival ng' es))) ∧ Below w.heap.size w w' := by
  have hbl0 := ((Below.refl w.heap.size w).alloc (Nat.le_refl _) (.cells #[.bool ng, .slice A ds.length c] 31)).alloc (by simp) (.cells #[.bool ng', .slice A' es.length c'] 31)
  have hc := ICmp_any ng ng' A A' c c' B ds es _ (Nat.le_trans hB hbl0.size) (h.below (hbl0.mono hB)) (h'.below (hbl0.mono hB)) hm hm'
  have hz0 : ((w.alloc (.cells #[.bool ng, .slice A ds.length c] 31)).alloc (.cells #[.bool ng', .slice A' es.length c'] 31)).heap.size = w.heap.size + 2 := by simp
  have HZ := Lib.hid hz0; have HBL := Lib.hid hbl0
  have HC := Lib.hid hc
  have hv := cmpZ_zero (ival ng ds) (ival ng' es)
  rw [← hv]
  clear hc h h' hbl0 hz0 hv
  generalize cmpZ (ival ng ds) (ival ng' es) = r at *
  go_enter Tryz.func27, Tryz.ntmps27
  go_wp2_with fail
  refine HC.out.mono ?_
  rintro e w2 ⟨rfl, hb⟩
  go_wp2_with fail
  go_ret
  exact ⟨rfl, HBL.out.trans (hb.mono (by rw [HZ.out]; omega))⟩
end Go.Proofs.YtpbapoanjkekmaaGreat

/- Contracts of the package integer: Of, Mul. -/
namespace Go.Proofs.YtpbapoanjkekmaaGreat
open Go.RowKit

set_option maxHeartbeats 1000000 in
set_option maxRecDepth 100000 in
theorem IOf_any (x : Int) (h0 : -9223372036854775808 ≤ x) (h1 : x ≤ 9223372036854775807) (w : World) : Calls Tryz.prog 19 #[.int .i64 x] w (IntRes x w) := by
  have hbl0 := (Below.refl w.heap.size w).alloc (Nat.le_refl _) (.cells #[.bool false, .slice none 0 0] 31)
  have hblk := Blk.new w 31 #[.bool false, .slice none 0 0]
  have hn := Of_any x.natAbs (by omega) (w.alloc (.cells #[.bool false, .slice none 0 0] 31))
  unfold NatRes at hn
  unfold IntRes
  generalize dig x.natAbs = es at *
  have HBL := Lib.hid hbl0; have HBK := Lib.hid hblk
  clear hbl0 hblk
  by_cases hx : x < 0
  · rw [show decide (x < 0) = true by simpa using hx]
    have hxe : ((x.natAbs : Nat) : Int) = IntKind.u64.wrap (-IntKind.u64.wrap x) := by
      simp only [IntKind.wrap, IntKind.bits, IntKind.signed, Bool.false_and, Bool.false_eq_true, if_false]
      omega
    rw [hxe] at hn
    have HN := Lib.hid hn
    clear hn hxe
    go_enter Tryz.func19, Tryz.ntmps19
    go_wp2_with fail
    refine HN.out.mono ?_
    rintro e w2 ⟨A1, c1, rfl, h3, h4, h5⟩
    have hk := HBK.out.old h5
    have d0 : w2.cell? ⟨w.heap.size, 0, none⟩ = some (.bool false) := (hk.cell 0).trans rfl
    have d1 : w2.cell? ⟨w.heap.size, 1, none⟩ = some (.slice none 0 0) := (hk.cell 1).trans rfl
    have f0 := hk.frozen 0
    have f1 := hk.frozen 1
    have z0 := hk.lt
    go_wp2_with fail
    have hbel := HBL.out.trans (h5.mono (by simp))
    exact ret_blk Tryz.results19 rfl rfl ((hk.set_ 0 _).set_ 1 _) Tryz.underlying31 rfl Tryz.sizeInt ⟨A1, c1, rfl, h3, h4.store2 hk (by decide) _ _, (hbel.setCell (Nat.le_refl _) _).setCell (Nat.le_refl _) _⟩
  · rw [show decide (x < 0) = false by simpa using hx]
    have hxe : ((x.natAbs : Nat) : Int) = x := by omega
    rw [hxe] at hn
    have HN := Lib.hid hn
    clear hn hxe
    go_enter Tryz.func19, Tryz.ntmps19
    go_wp2_with fail
    refine HN.out.mono ?_
    rintro e w2 ⟨A1, c1, rfl, h3, h4, h5⟩
    have hk := HBK.out.old h5
    have d0 : w2.cell? ⟨w.heap.size, 0, none⟩ = some (.bool false) := (hk.cell 0).trans rfl
    have d1 : w2.cell? ⟨w.heap.size, 1, none⟩ = some (.slice none 0 0) := (hk.cell 1).trans rfl
    have f0 := hk.frozen 0
    have f1 := hk.frozen 1
    have z0 := hk.lt
    go_wp2_with fail
    have hbel := HBL.out.trans (h5.mono (by simp))
    exact ret_blk Tryz.results19 rfl rfl ((hk.set_ 0 _).set_ 1 _) Tryz.underlying31 rfl Tryz.sizeInt ⟨A1, c1, rfl, h3, h4.store2 hk (by decide) _ _, (hbel.setCell (Nat.le_refl _) _).setCell (Nat.le_refl _) _⟩
end Go.Proofs.YtpbapoanjkekmaaGreat

/- Contracts of the package integer: Mul (one number of fewer than 48 digits). -/
namespace Go.Proofs.YtpbapoanjkekmaaGreat
open Go.RowKit
attribute [local go_sem ↓] Go.wp_at_zero Go.wp_at_succ

theorem imul_abs (ng ng' : Bool) (ds es : List Nat) : (ival ng ds * ival ng' es).natAbs = val ds * val es := by
  rw [Int.natAbs_mul, ival_abs, ival_abs]
theorem dig_len_pos {v : Nat} : 0 < (dig v).length ↔ 0 < v := by
  have := @dig_len0 v
  omega
theorem imul_neg (ng ng' : Bool) (ds es : List Nat) : decide (ival ng ds * ival ng' es < 0) = ((!ng == ng') && decide (0 < (dig (val ds * val es)).length)) := by
  have h0 : ((val ds : Nat) : Int) * ((val es : Nat) : Int) = ((val ds * val es : Nat) : Int) := by simp
  have h1 := @dig_len_pos (val ds * val es)
  unfold ival
  cases ng <;> cases ng' <;> simp only [if_true, Bool.false_eq_true, if_false, Int.neg_mul, Int.mul_neg, h0] <;> simp [h1] <;> omega

theorem Blk.drewN {w : World} {g : Nat} {t : TypeId} {cs : Array Value} (h : Blk w g t cs) (n : Nat) : Blk (w.drewN n) g t cs := h
theorem cell_far2 {w : World} {g b o : Nat} {u v x : Value} (h : w.cell? ⟨b, o, none⟩ = some x) (hne : b ≠ g) : ((w.setCell ⟨g, 0, none⟩ u).setCell ⟨g, 1, none⟩ v).cell? ⟨b, o, none⟩ = some x := by
  rw [World.cell?_setCell_other _ _ _ _ (fun e => hne (congrArg Addr.block e).symm), World.cell?_setCell_other _ _ _ _ (fun e => hne (congrArg Addr.block e).symm)]
  exact h
theorem ne_add2 (n : Nat) : n ≠ n + 1 + 1 := by omega
theorem ne_add1 (n : Nat) : n ≠ n + 1 := by omega
theorem boxes2 (w : World) (t0 t1 : TypeId) (c0 c1 : Array Value) : Below w.heap.size w ((w.alloc (.cells c0 t0)).alloc (.cells c1 t1)) ∧ Blk ((w.alloc (.cells c0 t0)).alloc (.cells c1 t1)) w.heap.size t0 c0 ∧
    Blk ((w.alloc (.cells c0 t0)).alloc (.cells c1 t1)) (w.heap.size + 1) t1 c1 ∧ ((w.alloc (.cells c0 t0)).alloc (.cells c1 t1)).heap.size = w.heap.size + 2 := by
  refine ⟨((Below.refl w.heap.size w).alloc (Nat.le_refl _) _).alloc (by simp) _, (Blk.new w t0 c0).alloc _, ?_, by simp⟩
  have k1 := Blk.new (w.alloc (.cells c0 t0)) t1 c1
  simpa using k1
theorem boxes3 (w : World) (t0 t1 t2 : TypeId) (c0 c1 c2 : Array Value) : Below w.heap.size w (((w.alloc (.cells c0 t0)).alloc (.cells c1 t1)).alloc (.cells c2 t2)) ∧ Blk (((w.alloc (.cells c0 t0)).alloc (.cells c1 t1)).alloc (.cells c2 t2)) w.heap.size t0 c0 ∧
    Blk (((w.alloc (.cells c0 t0)).alloc (.cells c1 t1)).alloc (.cells c2 t2)) (w.heap.size + 1) t1 c1 ∧ Blk (((w.alloc (.cells c0 t0)).alloc (.cells c1 t1)).alloc (.cells c2 t2)) (w.heap.size + 2) t2 c2 ∧
    (((w.alloc (.cells c0 t0)).alloc (.cells c1 t1)).alloc (.cells c2 t2)).heap.size = w.heap.size + 3 := by
  obtain ⟨h1, h2, h3, h4⟩ := boxes2 w t0 t1 c0 c1
  refine ⟨h1.alloc (by omega) _, h2.alloc _, h3.alloc _, ?_, by simp⟩
  have k2 := Blk.new ((w.alloc (.cells c0 t0)).alloc (.cells c1 t1)) t2 c2
  simpa using k2

set_option maxHeartbeats 1000000 in
set_option maxRecDepth 100000 in
theorem IMul_any (ng ng' : Bool) (A A' : Option Addr) (c c' B : Nat) (ds es : List Nat) (w : World) (hB : B ≤ w.heap.size) (h : NatIn w B A c ds) (h' : NatIn w B A' c' es) (hm : ds.length + es.length ≤ 900000) (h48 : ds.length < 48 ∨ es.length < 48) :
    Calls Tryz.prog 41 #[.agg #[.bool ng, .slice A ds.length c], .agg #[.bool ng', .slice A' es.length c']] w (IntRes (ival ng ds * ival ng' es) w) := by
  have e1 := imul_neg ng ng' ds es
  have e2 := imul_abs ng ng' ds es
  have hn := fun (W : World) (hb : Below w.heap.size w W) => Mul_any A A' c c' B ds es W (Nat.le_trans hB hb.size) h.cap h'.cap hm h48 (h.rd.below (hb.mono hB)) (h'.rd.below (hb.mono hB)) h.dg h'.dg
  unfold IntRes
  rw [e1, e2]
  clear e1 e2
  unfold NatRes at hn
  have hm1 := h.cap; have hm2 := h'.cap
  clear h h'
  generalize dig (val ds * val es) = rs at *
  have HN := Lib.hid hn
  have HX := Lib.hid (boxes3 w 31 31 31 #[.bool ng, .slice A ds.length c] #[.bool ng', .slice A' es.length c'] #[.bool false, .slice none 0 0])
  clear hn
  go_enter Tryz.func41, Tryz.ntmps41
  go_wp2_with fail
  generalize ((w.alloc (.cells #[.bool ng, .slice A ds.length c] 31)).alloc (.cells #[.bool ng', .slice A' es.length c'] 31)).alloc (.cells #[.bool false, .slice none 0 0] 31) = W at *
  obtain ⟨hb0, k0, k1, k2, hs⟩ := HX.out
  have HS := Lib.hid hs
  clear hs HX
  have c0 : W.cell? ⟨w.heap.size, 0, none⟩ = some (.bool ng) := k0.cell 0
  have c1 : W.cell? ⟨w.heap.size, 1, none⟩ = some (.slice A ds.length c) := k0.cell 1
  have c2 : W.cell? ⟨w.heap.size + 1, 0, none⟩ = some (.bool ng') := k1.cell 0
  have c3 : W.cell? ⟨w.heap.size + 1, 1, none⟩ = some (.slice A' es.length c') := k1.cell 1
  have l0 := k0.lt; have l1 := k1.lt; have l2 := k2.lt
  have K2 : Blk W.drew (w.heap.size + 2) 31 #[.bool false, .slice none 0 0] := k2
  have hb0' : Below w.heap.size w W.drew := hb0.trans ((Drawn.drew _).below _)
  go_region_held3 (fun w' => w'.cell? ⟨w.heap.size, 0, none⟩ = some (.bool ng) ∧ w'.cell? ⟨w.heap.size, 1, none⟩ = some (.slice A ds.length c) ∧ w'.cell? ⟨w.heap.size + 1, 0, none⟩ = some (.bool ng') ∧ w'.cell? ⟨w.heap.size + 1, 1, none⟩ = some (.slice A' es.length c'))
    (first | exact ⟨c0, c1, c2, c3⟩ | exact ⟨(h3.cell l0).trans c0, (h3.cell l0).trans c1, (h3.cell l1).trans c2, (h3.cell l1).trans c3⟩ | exact ⟨q0, q1, q2, q3⟩ | exact ⟨cell_far2 q0 (ne_add2 _), cell_far2 q1 (ne_add2 _), cell_far2 q2 (ne_add1 _), cell_far2 q3 (ne_add1 _)⟩)
    (first | (go_at_call 66; refine (HN.out _ hb0').mono ?_; rintro e w1 ⟨A1, c1', rfl, h1, h2, h3⟩) | (go_at_call 62; refine (signed_any _ _ _ _ _).mono ?_; rintro e w2 ⟨rfl, h4⟩; have kk := (K2.old h3).old h4; have d0 : w2.cell? ⟨w.heap.size + 2, 0, none⟩ = some (.bool false) := kk.cell 0; have d1 : w2.cell? ⟨w.heap.size + 2, 1, none⟩ = some (.slice none 0 0) := kk.cell 1; have f0 := kk.frozen 0; have f1 := kk.frozen 1; have q0 := (h4.cell (Nat.lt_of_lt_of_le l0 h3.size)).trans ((h3.cell l0).trans c0); have q1 := (h4.cell (Nat.lt_of_lt_of_le l0 h3.size)).trans ((h3.cell l0).trans c1); have q2 := (h4.cell (Nat.lt_of_lt_of_le l1 h3.size)).trans ((h3.cell l1).trans c2); have q3 := (h4.cell (Nat.lt_of_lt_of_le l1 h3.size)).trans ((h3.cell l1).trans c3)))
  clear q0 q1 q2 q3 c0 c1 c2 c3 
  go_wp2_with fail
  have hbel := (hb0'.trans (h3.mono hb0'.size)).trans (h4.mono (Nat.le_trans hb0'.size h3.size))
  exact ret_blk Tryz.results41 rfl rfl ((kk.set_ 0 _).set_ 1 _) Tryz.underlying31 rfl Tryz.sizeInt ⟨A1, c1', rfl, h1, (h2.old h4).store2 kk (by decide) _ _, (hbel.setCell (Nat.le_add_right _ 2) _).setCell (Nat.le_add_right _ 2) _⟩
end Go.Proofs.YtpbapoanjkekmaaGreat

/- Contracts of the package integer: Add, Sub. -/
namespace Go.Proofs.YtpbapoanjkekmaaGreat
open Go.RowKit
attribute [local go_sem ↓] Go.wp_at_zero Go.wp_at_succ

theorem iadd_same (ng : Bool) (ds es : List Nat) : (ival ng ds + ival ng es).natAbs = val ds + val es ∧ decide (ival ng ds + ival ng es < 0) = (ng && decide (0 < (dig (val ds + val es)).length)) := by
  have h1 := @dig_len_pos (val ds + val es)
  unfold ival
  cases ng
  · simp only [Bool.false_eq_true, if_false, Bool.false_and, decide_eq_false_iff_not]; omega
  · simp only [if_true, Bool.true_and, decide_eq_decide, h1]; omega
theorem iadd_ge (ng : Bool) (ds es : List Nat) (h : val es ≤ val ds) : (ival ng ds + ival (!ng) es).natAbs = val ds - val es ∧ decide (ival ng ds + ival (!ng) es < 0) = (ng && decide (0 < (dig (val ds - val es)).length)) := by
  have h1 := @dig_len_pos (val ds - val es)
  unfold ival
  cases ng
  · simp only [Bool.false_eq_true, if_false, Bool.false_and, Bool.not_false, if_true, decide_eq_false_iff_not]; omega
  · simp only [if_true, Bool.true_and, Bool.not_true, Bool.false_eq_true, if_false, decide_eq_decide, h1]; omega
theorem iadd_lt (ng : Bool) (ds es : List Nat) (h : val ds < val es) : (ival ng ds + ival (!ng) es).natAbs = val es - val ds ∧ decide (ival ng ds + ival (!ng) es < 0) = ((!ng) && decide (0 < (dig (val es - val ds)).length)) := by
  have h1 := @dig_len_pos (val es - val ds)
  unfold ival
  cases ng
  · simp only [Bool.false_eq_true, if_false, Bool.not_false, if_true, Bool.true_and, decide_eq_decide, h1]; omega
  · simp only [if_true, Bool.not_true, Bool.false_eq_true, if_false, Bool.false_and, decide_eq_false_iff_not]; omega
theorem cmpN_ge {a b : Nat} (h : b ≤ a) : 0 ≤ cmpN a b := by unfold cmpN; split <;> (try split) <;> omega
theorem cmpN_lt {a b : Nat} (h : a < b) : cmpN a b < 0 := by unfold cmpN; rw [if_pos h]; omega

set_option maxHeartbeats 1000000 in
set_option maxRecDepth 100000 in
theorem IAdd_same (ng : Bool) (A A' : Option Addr) (c c' B : Nat) (ds es : List Nat) (w : World) (hB : B ≤ w.heap.size) (h : NatIn w B A c ds) (h' : NatIn w B A' c' es) (hm : ds.length ≤ 900000) (hm' : es.length ≤ 900000) :
    Calls Tryz.prog 40 #[.agg #[.bool ng, .slice A ds.length c], .agg #[.bool ng, .slice A' es.length c']] w (IntRes (ival ng ds + ival ng es) w) := by
  obtain ⟨e2, e1⟩ := iadd_same ng ds es
  have hn := fun (W : World) (hb : Below w.heap.size w W) => Add_any A A' c c' B ds es W (Nat.le_trans hB hb.size) h.cap h'.cap hm hm' (h.rd.below (hb.mono hB)) (h'.rd.below (hb.mono hB)) h.dg h'.dg
  unfold IntRes
  rw [e1, e2]
  clear e1 e2
  unfold NatRes at hn
  have hm1 := h.cap; have hm2 := h'.cap
  clear h h'
  generalize dig (val ds + val es) = rs at *
  have HN := Lib.hid hn
  have HX := Lib.hid (boxes3 w 31 31 31 #[.bool ng, .slice A ds.length c] #[.bool ng, .slice A' es.length c'] #[.bool false, .slice none 0 0])
  clear hn
  go_enter Tryz.func40, Tryz.ntmps40
  have hbb : (ng == ng) = true := by simp
  go_wp2_with fail
  generalize ((w.alloc (.cells #[.bool ng, .slice A ds.length c] 31)).alloc (.cells #[.bool ng, .slice A' es.length c'] 31)).alloc (.cells #[.bool false, .slice none 0 0] 31) = W at *
  obtain ⟨hb0, k0, k1, k2, hs⟩ := HX.out
  have HS := Lib.hid hs
  clear hs HX
  have c0 : W.cell? ⟨w.heap.size, 0, none⟩ = some (.bool ng) := k0.cell 0
  have c1 : W.cell? ⟨w.heap.size, 1, none⟩ = some (.slice A ds.length c) := k0.cell 1
  have c3 : W.cell? ⟨w.heap.size + 1, 1, none⟩ = some (.slice A' es.length c') := k1.cell 1
  have l0 := k0.lt; have l1 := k1.lt; have l2 := k2.lt
  have K2 : Blk W.drew (w.heap.size + 2) 31 #[.bool false, .slice none 0 0] := k2
  have hb0' : Below w.heap.size w W.drew := hb0.trans ((Drawn.drew _).below _)
  go_region_held3 (fun w' => w'.cell? ⟨w.heap.size, 0, none⟩ = some (.bool ng) ∧ w'.cell? ⟨w.heap.size, 1, none⟩ = some (.slice A ds.length c) ∧ w'.cell? ⟨w.heap.size + 1, 1, none⟩ = some (.slice A' es.length c'))
    (first | exact ⟨c0, c1, c3⟩ | exact ⟨(h3.cell l0).trans c0, (h3.cell l0).trans c1, (h3.cell l1).trans c3⟩ | exact ⟨q0, q1, q3⟩ | exact ⟨cell_far2 q0 (ne_add2 _), cell_far2 q1 (ne_add2 _), cell_far2 q3 (ne_add1 _)⟩)
    (first | (go_at_call 63; refine (HN.out _ hb0').mono ?_; rintro e w1 ⟨A1, c1', rfl, h1, h2, h3⟩) | (go_at_call 62; refine (signed_any _ _ _ _ _).mono ?_; rintro e w2 ⟨rfl, h4⟩; have kk := (K2.old h3).old h4; have d0 : w2.cell? ⟨w.heap.size + 2, 0, none⟩ = some (.bool false) := kk.cell 0; have d1 : w2.cell? ⟨w.heap.size + 2, 1, none⟩ = some (.slice none 0 0) := kk.cell 1; have f0 := kk.frozen 0; have f1 := kk.frozen 1; have q0 := (h4.cell (Nat.lt_of_lt_of_le l0 h3.size)).trans ((h3.cell l0).trans c0); have q1 := (h4.cell (Nat.lt_of_lt_of_le l0 h3.size)).trans ((h3.cell l0).trans c1); have q3 := (h4.cell (Nat.lt_of_lt_of_le l1 h3.size)).trans ((h3.cell l1).trans c3)))
  clear q0 q1 q3 c0 c1 c3
  go_wp2_with fail
  have hbel := (hb0'.trans (h3.mono hb0'.size)).trans (h4.mono (Nat.le_trans hb0'.size h3.size))
  exact ret_blk Tryz.results40 rfl rfl ((kk.set_ 0 _).set_ 1 _) Tryz.underlying31 rfl Tryz.sizeInt ⟨A1, c1', rfl, h1, (h2.old h4).store2 kk (by decide) _ _, (hbel.setCell (Nat.le_add_right _ 2) _).setCell (Nat.le_add_right _ 2) _⟩

set_option maxHeartbeats 1000000 in
set_option maxRecDepth 100000 in
theorem IAdd_other (ng : Bool) (A A' : Option Addr) (c c' B : Nat) (ds es : List Nat) (w : World) (hB : B ≤ w.heap.size) (h : NatIn w B A c ds) (h' : NatIn w B A' c' es) (hm : ds.length ≤ 900000) (hm' : es.length ≤ 900000) :
    Calls Tryz.prog 40 #[.agg #[.bool ng, .slice A ds.length c], .agg #[.bool (!ng), .slice A' es.length c']] w (IntRes (ival ng ds + ival (!ng) es) w) := by
  have hcp := fun (W : World) (hb : Below w.heap.size w W) => Cmp_any A A' c c' B ds es W h.cap h'.cap (by omega) (by omega) (h.rd.below (hb.mono hB)) (h'.rd.below (hb.mono hB)) h.dg h'.dg
  have HC := Lib.hid hcp
  clear hcp
  have HX := Lib.hid (boxes3 w 31 31 31 #[.bool ng, .slice A ds.length c] #[.bool (!ng), .slice A' es.length c'] #[.bool false, .slice none 0 0])
  have hm1 := h.cap; have hm2 := h'.cap
  have hbb : (ng == !ng) = false := by cases ng <;> rfl
  generalize hng : (!ng) = ng' at *
  have HNG := Lib.hid hng; clear hng
  by_cases hle : val es ≤ val ds
  · obtain ⟨e2, e1⟩ := iadd_ge ng ds es hle
    rw [HNG.out] at e1 e2
    have hn := fun (W : World) (hb : Below w.heap.size w W) => Sub_any A A' c c' B ds es W (Nat.le_trans hB hb.size) h.cap h'.cap hm hm' (h.rd.below (hb.mono hB)) (h'.rd.below (hb.mono hB)) h.dg h'.dg hle
    unfold IntRes
    rw [e1, e2]
    clear e1 e2
    unfold SubRes at hn
    clear h h'
    generalize dig (val ds - val es) = rs at *
    have hk := cmpN_ge hle
    generalize cmpN (val ds) (val es) = kk at *
    have HN := Lib.hid hn
    clear hn hle
    go_enter Tryz.func40, Tryz.ntmps40
    go_wp2_with fail
    generalize ((w.alloc (.cells #[.bool ng, .slice A ds.length c] 31)).alloc (.cells #[.bool ng', .slice A' es.length c'] 31)).alloc (.cells #[.bool false, .slice none 0 0] 31) = W at *
    obtain ⟨hb0, k0, k1, k2, hs⟩ := HX.out
    clear hs HX
    refine (HC.out _ hb0).mono ?_
    rintro e w1 ⟨rfl, hd⟩
    obtain ⟨nd, rfl⟩ := hd
    have k0' := k0.drewN nd; have k1' := k1.drewN nd; have k2' := k2.drewN nd
    have hb1 : Below w.heap.size w (W.drewN nd) := hb0.trans ((Drawn.drewN _ _).below _)
    clear k0 k1 k2 hb0 HC
    generalize W.drewN nd = W1 at *
    have c0 : W1.cell? ⟨w.heap.size, 0, none⟩ = some (.bool ng) := k0'.cell 0
    have c1 : W1.cell? ⟨w.heap.size, 1, none⟩ = some (.slice A ds.length c) := k0'.cell 1
    have c3 : W1.cell? ⟨w.heap.size + 1, 1, none⟩ = some (.slice A' es.length c') := k1'.cell 1
    have l0 := k0'.lt; have l1 := k1'.lt; have l2 := k2'.lt
    go_wp2_with fail
    refine (HN.out _ hb1).mono ?_
    rintro e w2 ⟨A1, c1', rfl, h1, h2, h3⟩
    have c0' := (h3.cell l0).trans c0
    have k3 := k2'.old h3
    clear c0 c1 c3
    go_wp2_with fail
    refine (signed_any _ _ _ _ _).mono ?_
    rintro e w3 ⟨rfl, h4⟩
    have k4 := k3.old h4
    have d0 : w3.cell? ⟨w.heap.size + 2, 0, none⟩ = some (.bool false) := k4.cell 0
    have d1 : w3.cell? ⟨w.heap.size + 2, 1, none⟩ = some (.slice none 0 0) := k4.cell 1
    have f0 := k4.frozen 0; have f1 := k4.frozen 1
    go_wp2_with fail
    have hbel := (hb1.trans (h3.mono hb1.size)).trans (h4.mono (Nat.le_trans hb1.size h3.size))
    exact ret_blk Tryz.results40 rfl rfl ((k4.set_ 0 _).set_ 1 _) Tryz.underlying31 rfl Tryz.sizeInt ⟨A1, c1', rfl, h1, (h2.old h4).store2 k4 (by decide) _ _, (hbel.setCell (Nat.le_add_right _ 2) _).setCell (Nat.le_add_right _ 2) _⟩
  · have hlt : val ds < val es := by omega
    obtain ⟨e2, e1⟩ := iadd_lt ng ds es hlt
    rw [HNG.out] at e1 e2
    have hn := fun (W : World) (hb : Below w.heap.size w W) => Sub_any A' A c' c B es ds W (Nat.le_trans hB hb.size) h'.cap h.cap hm' hm (h'.rd.below (hb.mono hB)) (h.rd.below (hb.mono hB)) h'.dg h.dg (Nat.le_of_lt hlt)
    unfold IntRes
    rw [e1, e2]
    clear e1 e2
    unfold SubRes at hn
    clear h h'
    generalize dig (val es - val ds) = rs at *
    have hk := cmpN_lt hlt
    generalize cmpN (val ds) (val es) = kk at *
    have HN := Lib.hid hn
    clear hn hle hlt
    go_enter Tryz.func40, Tryz.ntmps40
    go_wp2_with fail
    generalize ((w.alloc (.cells #[.bool ng, .slice A ds.length c] 31)).alloc (.cells #[.bool ng', .slice A' es.length c'] 31)).alloc (.cells #[.bool false, .slice none 0 0] 31) = W at *
    obtain ⟨hb0, k0, k1, k2, hs⟩ := HX.out
    clear hs HX
    refine (HC.out _ hb0).mono ?_
    rintro e w1 ⟨rfl, hd⟩
    obtain ⟨nd, rfl⟩ := hd
    have k0' := k0.drewN nd; have k1' := k1.drewN nd; have k2' := k2.drewN nd
    have hb1 : Below w.heap.size w (W.drewN nd) := hb0.trans ((Drawn.drewN _ _).below _)
    clear k0 k1 k2 hb0 HC
    generalize W.drewN nd = W1 at *
    have c1 : W1.cell? ⟨w.heap.size, 1, none⟩ = some (.slice A ds.length c) := k0'.cell 1
    have c2 : W1.cell? ⟨w.heap.size + 1, 0, none⟩ = some (.bool ng') := k1'.cell 0
    have c3 : W1.cell? ⟨w.heap.size + 1, 1, none⟩ = some (.slice A' es.length c') := k1'.cell 1
    have l0 := k0'.lt; have l1 := k1'.lt; have l2 := k2'.lt
    go_wp2_with fail
    refine (HN.out _ hb1).mono ?_
    rintro e w2 ⟨A1, c1', rfl, h1, h2, h3⟩
    have c0' := (h3.cell l1).trans c2
    have k3 := k2'.old h3
    clear c1 c2 c3
    go_wp2_with fail
    refine (signed_any _ _ _ _ _).mono ?_
    rintro e w3 ⟨rfl, h4⟩
    have k4 := k3.old h4
    have d0 : w3.cell? ⟨w.heap.size + 2, 0, none⟩ = some (.bool false) := k4.cell 0
    have d1 : w3.cell? ⟨w.heap.size + 2, 1, none⟩ = some (.slice none 0 0) := k4.cell 1
    have f0 := k4.frozen 0; have f1 := k4.frozen 1
    go_wp2_with fail
    have hbel := (hb1.trans (h3.mono hb1.size)).trans (h4.mono (Nat.le_trans hb1.size h3.size))
    exact ret_blk Tryz.results40 rfl rfl ((k4.set_ 0 _).set_ 1 _) Tryz.underlying31 rfl Tryz.sizeInt ⟨A1, c1', rfl, h1, (h2.old h4).store2 k4 (by decide) _ _, (hbel.setCell (Nat.le_add_right _ 2) _).setCell (Nat.le_add_right _ 2) _⟩
theorem IAdd_any (ng ng' : Bool) (A A' : Option Addr) (c c' B : Nat) (ds es : List Nat) (w : World) (hB : B ≤ w.heap.size) (h : NatIn w B A c ds) (h' : NatIn w B A' c' es) (hm : ds.length ≤ 900000) (hm' : es.length ≤ 900000) :
    Calls Tryz.prog 40 #[.agg #[.bool ng, .slice A ds.length c], .agg #[.bool ng', .slice A' es.length c']] w (IntRes (ival ng ds + ival ng' es) w) := by
  by_cases e : ng' = ng
  · subst e; exact IAdd_same ng' A A' c c' B ds es w hB h h' hm hm'
  · obtain rfl : ng' = !ng := by cases ng <;> cases ng' <;> simp at e ⊢
    exact IAdd_other ng A A' c c' B ds es w hB h h' hm hm'

end Go.Proofs.YtpbapoanjkekmaaGreat
