/- Contracts of recpoly.Var and of the law's variables. -/
import Derived.IntWalk
import Derived.Test.YtkkliemgidhgmaaGreatDoorRM
import Derived.Test.YtkkliemgidhgmaaGreatDoorRG
import Derived.Test.YtkkliemgidhgmaaGreatDoorZI
import Derived.Test.YtkkliemgidhgmaaGreatDoorQP
import Derived.Test.YtkkliemgidhgmaaGreatDoorMF
namespace Go.Proofs.YtkkliemgidhgmaaGreatDoor
open Go.RowKit

def oneT : RP := .mk 0 false [1] []
def varT (i : Int) : RP := .mk i false [] [zeroT, oneT]
def varsT (n : Nat) : List RP := (List.range n).map fun (j : Nat) => varT ((j : Int) + 1)
theorem varsT_len (n : Nat) : (varsT n).length = n := by simp [varsT]
theorem varsT_succ (n : Nat) : varsT (n + 1) = varsT n ++ [varT ((n : Int) + 1)] := by
  unfold varsT
  rw [List.range_succ, List.map_append]
  rfl
theorem dig_one : dig 1 = [1] := by decide +kernel
set_option maxHeartbeats 1000000 in
theorem isLevel_any (i : Int) (w : World) : Calls Tryz.prog 41 #[.int .i64 i] w fun e w' => e = .returned (.bool (decide (1 ≤ i) && decide (i ≤ 4))) ∧ w' = w := by
  by_cases h1 : 1 ≤ i
  · rw [decide_eq_true h1, Bool.true_and]
    go_enter Tryz.func41, Tryz.ntmps41
    go_wp2
    go_ret
    exact ⟨rfl, rfl⟩
  · rw [decide_eq_false h1, Bool.false_and]
    go_enter Tryz.func41, Tryz.ntmps41
    go_wp2
    go_ret
    exact ⟨rfl, rfl⟩
/-- the variable's cells, when its row of coefficients lies in block g -/
theorem varT_RB {w : World} {base g : Nat} {i : Int} {A1 : Option Addr} {c1 : Nat} (hb : base ≤ g) (hk : Blk w g 32 #[.int .i64 0, .bool false, .slice none 0 0, .slice none 0 0, .int .i64 0, .bool false, .slice A1 1 c1, .slice none 0 0]) (hn : NatB w A1 [1]) (hc : 1 ≤ c1) :
    RB w base (varT i) (rcell (varT i) none 0 (some ⟨g, 0, none⟩) 2) := by
  refine RB.node (ks := [zeroT, oneT]) (rows := [rcell zeroT none 0 none 0, rcell oneT A1 c1 none 0]) rfl (fun r hr => ?_) hb hk (fun j v hv => ?_) (Nat.le_refl _) ?_
  · simp at hr
    rcases hr with rfl | rfl <;> rfl
  · rw [← hv]
    simp [rcell, zeroT, oneT, RP.lv, RP.ng, RP.ds, RP.ks]
  · unfold RVs
    refine ⟨_, _, rfl, RT.zero, ?_⟩
    unfold RVs
    refine ⟨_, _, rfl, RB.const hn (by simp [Dig]) hc, ?_⟩
    unfold RVs
    rfl
theorem VarFin.mk {w w3 : World} {i : Int} {g h : Nat} {cs : Array Value} {A1 : Option Addr} {c1 : Nat} (s1 : Blk w3 g 32 cs) (hn : NatB w3 A1 [1]) (hb : Below w.heap.size w w3) (hc : [1].length ≤ c1) (hz : w3.heap.size = h) (hg : w.heap.size ≤ h) :
    Blk (w3.alloc (.cells #[.int .i64 0, .bool false, .slice none 0 0, .slice none 0 0, .int .i64 0, .bool false, .slice A1 1 c1, .slice none 0 0] 32)) g 32 cs ∧
    RB (w3.alloc (.cells #[.int .i64 0, .bool false, .slice none 0 0, .slice none 0 0, .int .i64 0, .bool false, .slice A1 1 c1, .slice none 0 0] 32)) w.heap.size (varT i) (rcell (varT i) none 0 (some ⟨h, 0, none⟩) 2) ∧
    Below w.heap.size w (w3.alloc (.cells #[.int .i64 0, .bool false, .slice none 0 0, .slice none 0 0, .int .i64 0, .bool false, .slice A1 1 c1, .slice none 0 0] 32)) := by
  subst hz
  have ha := (Below.refl w3.heap.size w3).alloc (Nat.le_refl _) (.cells #[.int .i64 0, .bool false, .slice none 0 0, .slice none 0 0, .int .i64 0, .bool false, .slice A1 1 c1, .slice none 0 0] 32)
  exact ⟨s1.alloc _, varT_RB hg (Blk.new w3 32 _) (hn.old ha) hc, hb.alloc hg _⟩
set_option maxHeartbeats 2000000 in
set_option maxRecDepth 100000 in
theorem Var_any (i : Int) (h1 : 1 ≤ i) (h4 : i ≤ 4) (w : World) : Calls Tryz.prog 21 #[.int .i64 i] w fun e w' =>
    ∃ g, e = .returned (.agg #[.int .i64 i, .bool false, .slice none 0 0, .slice (some ⟨g, 0, none⟩) 2 2]) ∧ RB w' w.heap.size (varT i) (rcell (varT i) none 0 (some ⟨g, 0, none⟩) 2) ∧ Below w.heap.size w w' := by
  have HB0 := Lib.hid ((Below.refl w.heap.size w).alloc (Nat.le_refl _) (.cells #[.int .i64 0, .bool false, .slice none 0 0, .slice none 0 0] 32))
  have HK0 := Lib.hid (Blk.new w 32 #[.int .i64 0, .bool false, .slice none 0 0, .slice none 0 0])
  have HL := Lib.hid (fun W => isLevel_any i W)
  rw [decide_eq_true h1, decide_eq_true h4] at HL
  have HO := Lib.hid (fun W => IOf_any 1 (by omega) (by omega) W)
  clear h1 h4
  go_enter Tryz.func21, Tryz.ntmps21
  go_wp2_with fail
  refine (HL.out _).mono ?_
  rintro e w1 ⟨rfl, rfl⟩
  go_wp2_with fail
  refine (HO.out _).mono ?_
  rintro e w2 hr
  unfold IntRes at hr
  rw [show (1 : Int).natAbs = 1 from rfl, dig_one] at hr
  obtain ⟨A1, c1, rfl, hc1, hn1, hb2⟩ := hr
  rw [show decide ((1 : Int) < 0) = false from rfl]
  have hk := HK0.out.old hb2
  obtain ⟨s1, s2, s3⟩ := sets4 (k := 0) hk (.int .i64 i) (.bool false) (.slice none 0 0) (.slice (some ⟨w2.heap.size, 0, none⟩) 2 2)
  have hb3 := ((((HB0.out.trans (hb2.mono (by simp))).setCell (p := ⟨w.heap.size, 0, none⟩) (Nat.le_refl _) (.int .i64 i)).setCell (p := ⟨w.heap.size, 1, none⟩) (Nat.le_refl _) (.bool false)).setCell (p := ⟨w.heap.size, 2, none⟩) (Nat.le_refl _) (.slice none 0 0)).setCell (p := ⟨w.heap.size, 3, none⟩) (Nat.le_refl _) (.slice (some ⟨w2.heap.size, 0, none⟩) 2 2)
  have HFIN := Lib.hid (VarFin.mk (i := i) (h := w2.heap.size) s1 (NatB.keep hn1 s2) hb3 hc1 (by simp) (Nat.le_of_lt hk.lt))
  have f0 := hk.frozen 0; have f1 := hk.frozen 1; have f2 := hk.frozen 2; have f3 := hk.frozen 3
  have d0 := hk.cell 0; have d1 := hk.cell 1; have d2 := hk.cell 2; have d3 := hk.cell 3
  have z0 := hk.lt
  clear hk hb2 hn1 hc1 s1 s2 s3 hb3
  go_wp2_with fail
  obtain ⟨k1, k2, k3⟩ := HFIN.out
  exact ret_blk Tryz.results21 rfl rfl k1 Tryz.underlying32 rfl Tryz.sizeRec ⟨w2.heap.size, rfl, k2, k3⟩
/-! ### the variables -/
/-- blocks of polynomials that are done -/
def OkV (w : World) (r : Option Nat) (b : Nat) : Prop := (∃ cs, Blk w b 101 cs) ∨ (some b ≠ r ∧ ∃ cs, Blk w b 32 cs)
theorem OkV.lt {w : World} {r : Option Nat} {b : Nat} (h : OkV w r b) : b < w.heap.size := by
  rcases h with ⟨cs, h⟩ | ⟨_, cs, h⟩ <;> exact h.lt
theorem OkV.keep {w w' : World} {r r' : Option Nat} (hu : ∀ g cs, Blk w g 101 cs → Blk w' g 101 cs) (hr : ∀ g cs, some g ≠ r → Blk w g 32 cs → Blk w' g 32 cs ∧ some g ≠ r') :
    (∀ b, OkV w r b → ∀ o, w'.cell? ⟨b, o, none⟩ = w.cell? ⟨b, o, none⟩) ∧ ∀ b, OkV w r b → OkV w' r' b := by
  refine ⟨fun b h o => ?_, fun b h => ?_⟩
  · rcases h with ⟨cs, h⟩ | ⟨h0, cs, h⟩
    · exact h.cell_eq (hu b cs h) o
    · exact h.cell_eq (hr b cs h0 h).1 o
  · rcases h with ⟨cs, h⟩ | ⟨h0, cs, h⟩
    · exact .inl ⟨cs, hu b cs h⟩
    · exact .inr ⟨(hr b cs h0 h).2, cs, (hr b cs h0 h).1⟩
structure VarI (w W : World) (v : Value) (ks : List RP) : Prop where
  bel : Below w.heap.size w W
  row : ∃ rows, W.ownsRow w.heap.size 32 4 v ks.length rows.flatten ∧ RVs W (OkV W v.ownBlock) ks rows
theorem VarI.start (w : World) : VarI w w (.slice none 0 0) [] := ⟨Below.refl _ _, [], ⟨rfl, .inl ⟨rfl, rfl⟩⟩, by unfold RVs; rfl⟩
theorem VarI.push {w W W1 W2 : World} {v v' : Value} {ks : List RP} {rows : List (List Value)} {u : RP} {us cs : List Value} (h : VarI w W v ks) (hr : W.ownsRow w.heap.size 32 4 v ks.length rows.flatten) (hm : RVs W (OkV W v.ownBlock) ks rows)
    (h1 : Below W.heap.size W W1) (hu : RB W1 W.heap.size u us) (ho : W2.ownsRow w.heap.size 32 4 v' (ks.length + 1) (rows.flatten ++ us)) (hg : (W1.alloc (.cells cs.toArray 32)).grownBy W2 v.ownBlock)
    (hat : v'.ownBlock = v.ownBlock ∨ v'.ownBlock = some (W1.alloc (.cells cs.toArray 32)).heap.size) : VarI w W2 v' (ks ++ [u]) := by
  have ha := (Below.refl W1.heap.size W1).alloc (Nat.le_refl _) (.cells cs.toArray 32)
  have h2 := h1.trans (ha.mono h1.size)
  have hr1 := own_old hr h2
  have hlt : ∀ b, v.ownBlock = some b → b < W.heap.size := fun b hb => by
    rcases hr.2 with ⟨e, _⟩ | ⟨g', cap, cur, e, _, hh, _⟩
    · rw [e] at hb; simp [Value.ownBlock] at hb
    · rw [e] at hb
      have : g' = b := by simpa [Value.ownBlock] using hb
      subst this
      exact Blk.lt (show Blk W g' 32 cur from hh)
  have ku : ∀ j ds, Blk W1 j 101 ds → Blk W2 j 101 ds := fun j ds k => (k.old ha).grown hg (own_blk_ne hr1 (k.old ha) (by decide))
  have kr : ∀ j ds, some j ≠ v.ownBlock → Blk W1 j 32 ds → Blk W2 j 32 ds ∧ some j ≠ v'.ownBlock := fun j ds hne k => ⟨(k.old ha).grown hg hne, by
    rcases hat with e | e
    · rw [e]; exact hne
    · rw [e]; intro e; injection e with e; have := (k.old ha).lt; omega⟩
  obtain ⟨k1, k2⟩ := OkV.keep (w := W1) (w' := W2) (r := v.ownBlock) (r' := v'.ownBlock) ku kr
  obtain ⟨q1, q2⟩ := OkV.keep (w := W) (w' := W1) (r := v.ownBlock) (r' := v.ownBlock) (fun _ _ k => k.old h1) (fun _ _ hne k => ⟨k.old h1, hne⟩)
  have hub : ∀ b, OkS W1 W.heap.size b → OkV W1 v.ownBlock b := fun b hb => by
    rcases hb with hb | ⟨h0, hb⟩
    · exact .inl hb
    · exact .inr ⟨fun e => by have := hlt b e.symm; omega, hb⟩
  have hu2 : RV W2 (OkV W2 v'.ownBlock) u us := RV.mono k2 _ _ (RV.keep k1 _ _ (RV.mono hub _ _ hu))
  have hm2 : RVs W2 (OkV W2 v'.ownBlock) ks rows := RVs.mono k2 _ _ (RVs.keep k1 _ _ (RVs.mono q2 _ _ (RVs.keep q1 _ _ hm)))
  refine ⟨?_, rows ++ [us], by simpa using ho, RVs.snoc hm2 hu2⟩
  have hb2 : Below w.heap.size (W1.alloc (.cells cs.toArray 32)) W2 := ⟨hg.os, hg.tape, hg.output, hg.size, fun k hk => hg.block k (by have := h.bel.size; have := h2.size; omega) (fun e => by have := own_geR hr e.symm; omega)⟩
  exact (h.bel.trans (h2.mono h.bel.size)).trans hb2
theorem VarI.fin {w W : World} {v : Value} {ks : List RP} (h : VarI w W v ks) : ∃ K kc, v = .slice K ks.length kc ∧ RV W (· < W.heap.size) (.mk 0 false [] ks) (rcell (.mk 0 false [] ks) none 0 K kc) := by
  obtain ⟨rows, h1, h2⟩ := h.row
  obtain ⟨L, lc, rfl⟩ := own_slice6 h1
  refine ⟨L, lc, rfl, ?_⟩
  have hm := RVs.mono (S' := (· < W.heap.size)) (fun b hb => hb.lt) _ _ h2
  unfold RV
  by_cases h0 : ks.length = 0
  · exact ⟨none, 0, L, lc, rfl, ReadsS.of Reads.none_ (fun _ h => h), by simp [Dig], Nat.le_refl _, by omega, rows, ⟨h1.1, fun hp => by omega⟩, hm⟩
  · obtain ⟨g', lc', e, hb, hl⟩ := h1.form (by omega)
    injection e with e1 e2 e3
    subst e1; subst e3
    obtain ⟨cur, hk, _, hc, hx⟩ := own_blk h1
    refine ⟨none, 0, _, lc, rfl, ReadsS.of Reads.none_ (fun _ h => h), by simp [Dig], Nat.le_refl _, hc, rows, ⟨h1.1, fun _ => ⟨g', 0, rfl, hl, fun j x hj => ?_⟩⟩, hm⟩
    rw [Nat.zero_add, hk.cell]
    exact hx j x hj
theorem Reads.four_new (w : World) (cs : List Value) (h : cs.length = 4) (t : TypeId) : Reads (w.alloc (.cells cs.toArray t)) (w.heap.size + 1) 4 (some ⟨w.heap.size, 0, none⟩) 1 cs := by
  refine ⟨by omega, fun _ => ⟨_, _, rfl, by omega, fun j x hj => ?_⟩⟩
  have := (Blk.new w t cs.toArray).cell j
  rw [Nat.zero_add, this]
  simpa using hj
def VarsRes (n : Nat) (w : World) (e : Ending) (w' : World) : Prop :=
  ∃ K kc, e = .returned (.slice K n kc) ∧ RV w' (· < w'.heap.size) (.mk 0 false [] (varsT n)) (rcell (.mk 0 false [] (varsT n)) none 0 K kc) ∧ Below w.heap.size w w'
set_option maxHeartbeats 2000000 in
set_option maxRecDepth 100000 in
theorem variables_any (n : Nat) (hn : n ≤ 4) (w : World) : Calls Tryz.prog 8 #[.int .i64 (n : Int)] w (VarsRes n w) := by
  have HV := Lib.hid (fun (k : Nat) (hk : k < n) (W : World) => Var_any ((k : Int) + 1) (by omega) (by omega) W)
  have HPOST := Lib.hid (fun (W : World) (v : Value) (h : VarI w W v (varsT n)) => show VarsRes n w (.returned v) W by
    obtain ⟨K, kc, rfl, hr⟩ := h.fin
    exact ⟨K, kc, by rw [varsT_len], hr, h.bel⟩)
  have HST := Lib.hid (VarI.start w)
  obtain ⟨i0, hi0, hz0, hz1, hz2⟩ := info_parts Tryz.infoRec
  generalize VarsRes n w = Post at *
  go_enter Tryz.func8, Tryz.ntmps8
  go_wp2_with fail
  go_loopg [3, 4, 6] n (fun gn v _ ix wr => ∃ k : Nat, k ≤ n ∧ gn = n - k ∧ ix = .int .i64 k ∧ VarI w wr v (varsT k))
  case atStart => exact ⟨0, Nat.zero_le _, rfl, rfl, HST.out⟩
  case round =>
    clear HST
    obtain ⟨k, hk, hgk, rfl, hvi⟩ := hrel
    have HG := Lib.hid hgk
    clear hgk
    by_cases hlt : k < n
    · have HVK := Lib.hid (HV.out k hlt wr)
      obtain ⟨rows, hro, hms⟩ := hvi.row
      have HVI := Lib.hid hvi
      have hkl := varsT_len k
      rw [hkl] at hro
      have h63 : k + 1 ≤ maxLen := by unfold maxLen; omega
      have hby : (k + 1) * 64 ≤ 140737488355328 := by omega
      have i4 : (k : Int) < (n : Int) := by omega
      have hwk : IntKind.i64.wrap ((k : Int) + 1) = (k : Int) + 1 := IntWalk.i64_in _ (by omega)
      have HRO := Lib.hid hro; have HMS := Lib.hid hms; have HSZ := Lib.hid hvi.bel.size
      have HKL := Lib.hid hkl
      clear hvi hro hms hkl hn
      go_wp2_with fail
      refine HVK.out.mono ?_
      rintro e w1 ⟨g, rfl, hrb, hb1⟩
      have hrd := Reads.four_new w1 [.int .i64 ((k : Int) + 1), .bool false, .slice none 0 0, .slice (some ⟨g, 0, none⟩) 2 2] rfl 32
      have hro1 := own_old (own_old HRO.out hb1) ((Below.refl w1.heap.size w1).alloc (Nat.le_refl _) (.cells #[.int .i64 ((k : Int) + 1), .bool false, .slice none 0 0, .slice (some ⟨g, 0, none⟩) 2 2] 32))
      have hbase : w.heap.size ≤ (w1.alloc (.cells #[.int .i64 ((k : Int) + 1), .bool false, .slice none 0 0, .slice (some ⟨g, 0, none⟩) 2 2] 32)).heap.size := Nat.le_trans HSZ.out (Nat.le_trans hb1.size (by simp))
      have HPU := Lib.hid (fun (W2 : World) (v' : Value) ho hg hat => HVI.out.push (W2 := W2) (v' := v') (cs := [.int .i64 ((k : Int) + 1), .bool false, .slice none 0 0, .slice (some ⟨g, 0, none⟩) 2 2]) (by rw [HKL.out]; exact HRO.out) HMS.out hb1 hrb (by rw [HKL.out]; exact ho) hg hat)
      clear hrb hb1
      go_wp2_with (at_builtin; refine wpList_append_any _ rfl (.tmp 9) (.tmp 13) 30 rfl w.heap.size 32 i0 _ 4 64 Tryz.underlying30 hi0 hz0 hz1 hz2 rfl (by decide) u3 k rows.flatten rfl hro1 (w1.heap.size + 1) (some ⟨w1.heap.size, 0, none⟩) 1 1 [.int .i64 ((k : Int) + 1), .bool false, .slice none 0 0, .slice (some ⟨g, 0, none⟩) 2 2] rfl hrd (by intro u hu; simp at hu; rcases hu with rfl | rfl | rfl | rfl <;> rfl) h63 hby hbase ?_; intro v' w2 hown2 hg2 hat2; refine Hid.out ?_)
      refine Lib.hid ?_
      have HN := Lib.hid (HPU.out w2 v' hown2 hg2 hat2)
      clear hown2 hg2 hat2 hrd hro1 hbase h63 hby
      go_wp2_with fail
      go_roundg (n - (k + 1))
      case rel => exact ⟨k + 1, by omega, rfl, by go_num, by rw [varsT_succ]; exact HN.out⟩
      case measure => have := HG.out; omega
    · obtain rfl : n = k := by omega
      have HFIN := Lib.hid (HPOST.out wr u3 hvi)
      clear hvi
      go_wp2_with fail
      exact HFIN.out
end Go.Proofs.YtkkliemgidhgmaaGreatDoor

/- Plain laws of reading the terms of variables back from their matrix. -/
namespace Go.Proofs.YtkkliemgidhgmaaGreatDoor
open Go.RowKit

theorem getD_someB {α : Type} {l : List α} {k : Nat} (h : k < l.length) (d : α) : l[k]? = some (l.getD k d) := by simp [List.getElem?_eq_getElem h]
theorem varsT_at {n k : Nat} (h : k < n) : (varsT n)[k]? = some (varT ((k : Int) + 1)) := by simp [varsT, h]
theorem varT_can {i : Int} (h1 : 1 ≤ i) (h4 : i ≤ 4) : canB (varT i) = true := by
  have h0 : i ≠ 0 := by omega
  have h5 : (0 : Int) < i := by omega
  unfold varT
  simp only [canB, canL, zeroT, oneT, RP.lv]
  rw [if_neg h0]
  simp [h1, h4, h5, canC, lastT, isZT, RP.ds]
theorem varT_nr {i : Int} (h1 : 1 ≤ i) (h4 : i ≤ 4) : (nrT (varT i)).lv = i := by
  have h0 : i ≠ 0 := by omega
  rw [nrT_eq (T := varT i) (.inl ⟨varT_can h1 h4, rfl⟩)]
  unfold varT
  simp only [cpT]
  rw [if_neg h0]
  rfl
/-- the positions that are restricted -/
def posL (t : List Int) : Nat → List (Nat × Int)
  | 0 => []
  | k + 1 => posL t k ++ (if t.getD k 0 = 7 then [] else [(k, t.getD k 0)])
noncomputable def atV (x : Nat × Int) : MX := .mk 2 (relN x.2) (nrT (varT ((x.1 : Int) + 1))) []
theorem atms_pos {n : Nat} {t : List Int} (hl : t.length = n) (h0 : ∀ i, i < n → t.getD i 0 ≠ 0) : ∀ k, k ≤ n → atms (varsT n) (t.take k) = (posL t k).map atV
  | 0, _ => by simp [atms_nil, posL]
  | k + 1, hk => by
    have h1 := getD_someB (l := t) (k := k) (by omega) 0
    rw [atms_take (varsT n) t k _ _ (varsT_at (by omega)) h1, atms_pos hl h0 k (by omega)]
    have h2 := h0 k (by omega)
    simp only [posL, List.map_append]
    congr 1
    unfold atm
    by_cases h7 : t.getD k 0 = 7
    · rw [if_pos h7, if_pos h7]; rfl
    · rw [if_neg h7, if_neg h7, if_neg h2]; rfl
theorem posL_len (t : List Int) : ∀ n, (posL t n).length ≤ n
  | 0 => Nat.le_refl _
  | n + 1 => by
    have := posL_len t n
    simp only [posL, List.length_append]
    split <;> simp <;> omega
theorem pos_at (t : List Int) : ∀ (n j : Nat) (x : Nat × Int), (posL t n)[j]? = some x → ∃ i, i < n ∧ x = (i, t.getD i 0) ∧ t.getD i 0 ≠ 7 ∧ (posL t n).take j = posL t i
  | 0, j, x, h => by simp [posL] at h
  | n + 1, j, x, h => by
    simp only [posL] at h ⊢
    by_cases hj : j < (posL t n).length
    · rw [List.getElem?_append_left hj] at h
      obtain ⟨i, h1, h2, h3, h4⟩ := pos_at t n j x h
      exact ⟨i, by omega, h2, h3, by rw [List.take_append_of_le_length (by omega)]; exact h4⟩
    · rw [List.getElem?_append_right (by omega)] at h
      by_cases h7 : t.getD n 0 = 7
      · rw [if_pos h7] at h; simp at h
      · rw [if_neg h7] at h ⊢
        have hj0 : j - (posL t n).length = 0 := by have := (List.getElem?_eq_some_iff.1 h).1; simp at this; omega
        rw [hj0] at h
        simp at h
        refine ⟨n, by omega, h.symm, h7, ?_⟩
        rw [show j = (posL t n).length by omega, List.take_left']
        rfl
def fillU (n : Nat) (l : List (Nat × Int)) : List Int := l.foldl (fun u x => u.set x.1 x.2) (List.replicate n 7)
theorem fillU_pos {t : List Int} {n : Nat} (hl : t.length = n) : ∀ k, k ≤ n → fillU n (posL t k) = t.take k ++ List.replicate (n - k) 7
  | 0, _ => by simp [fillU, posL]
  | k + 1, hk => by
    have ih := fillU_pos hl k (by omega)
    have hkt : k < t.length := by omega
    have e1 : t.getD k 0 = t[k] := by simp [List.getElem?_eq_getElem hkt]
    have e2 : n - k = (n - (k + 1)) + 1 := by omega
    have e3 : (t.take k).length = k := by rw [List.length_take]; omega
    unfold fillU at ih ⊢
    simp only [posL, List.foldl_append, ih, List.take_succ_eq_append_getElem hkt, e2, List.replicate_succ, e1]
    by_cases h7 : t[k] = 7
    · rw [if_pos h7, h7]
      simp
    · rw [if_neg h7]
      simp only [List.foldl_cons, List.foldl_nil]
      rw [List.set_append_right _ _ (by omega), e3, Nat.sub_self, List.set_cons_zero]
      rw [List.append_assoc, List.singleton_append]
/-- behind j atoms -/
theorem fill_at {t : List Int} {n j : Nat} {x : Nat × Int} (hl : t.length = n) (h : (posL t n)[j]? = some x) :
    ∃ i, i < n ∧ x = (i, t.getD i 0) ∧ t.getD i 0 ≠ 7 ∧ (fillU n ((posL t n).take j)).length = n ∧ (fillU n ((posL t n).take j)).getD i 0 = 7 ∧ fillU n ((posL t n).take (j + 1)) = (fillU n ((posL t n).take j)).set i (t.getD i 0) := by
  obtain ⟨i, h1, h2, h3, h4⟩ := pos_at t n j x h
  have h5 := fillU_pos hl i (by omega)
  have e3 : (t.take i).length = i := by rw [List.length_take]; omega
  refine ⟨i, h1, h2, h3, ?_, ?_, ?_⟩
  · rw [h4, h5, List.length_append, e3, List.length_replicate]; omega
  · rw [h4, h5, List.getD_eq_getElem?_getD, List.getElem?_append_right (by omega), e3, Nat.sub_self, show n - i = (n - i - 1) + 1 by omega, List.replicate_succ]
    rfl
  · have hj : j < (posL t n).length := (List.getElem?_eq_some_iff.1 h).1
    have e : (posL t n)[j] = x := by rw [List.getElem?_eq_getElem hj] at h; exact Option.some.inj h
    rw [List.take_succ_eq_append_getElem hj, e, h2]
    unfold fillU
    rw [List.foldl_append]
    rfl
theorem fill_end {t : List Int} {n : Nat} (hl : t.length = n) : fillU n ((posL t n).take (posL t n).length) = t := by
  rw [List.take_length, fillU_pos hl n (Nat.le_refl _), Nat.sub_self, List.take_of_length_le (by omega)]
  simp
theorem fill_start {t : List Int} {n : Nat} : fillU n ((posL t n).take 0) = List.replicate n 7 := rfl
/-- the term that a relation stands for -/
def setsA : List Int := [0, 1, 3, 2, 5, 6, 4]
theorem rel_back {s : Int} (h1 : 1 ≤ s) (h6 : s ≤ 6) : 1 ≤ relN s ∧ relN s ≤ 6 ∧ setsA.getD (relN s).toNat 0 = s := by
  rcases (by omega : s = 1 ∨ s = 2 ∨ s = 3 ∨ s = 4 ∨ s = 5 ∨ s = 6) with rfl | rfl | rfl | rfl | rfl | rfl <;> decide
/-- terms that a cover may have -/
def TermsOk (n : Nat) (ts : List (List Int)) : Prop := ∀ t ∈ ts, t.length = n ∧ ∀ i, i < n → 1 ≤ t.getD i 0 ∧ t.getD i 0 ≤ 7
theorem cover_terms {n : Nat} {rows : List (List Int × Bool)} {ts : List (List Int)} (h : CoverOk n rows ts) : TermsOk n ts := fun t ht => h.term t ht
theorem TermsOk.mat {n : Nat} {ts : List (List Int)} (h : TermsOk n ts) : matB n ts = true := by
  unfold matB
  rw [List.all_eq_true]
  intro t ht
  obtain ⟨h1, h2⟩ := h t ht
  unfold termB
  rw [decide_eq_true h1, Bool.true_and, List.all_eq_true]
  intro s hs
  obtain ⟨i, hi⟩ := List.mem_iff_getElem?.1 hs
  have hil : i < n := by rw [← h1]; exact (List.getElem?_eq_some_iff.1 hi).1
  have := h2 i hil
  rw [List.getD_eq_getElem?_getD, hi] at this
  simp at this
  unfold sgB
  rw [decide_eq_true (by omega), decide_eq_true this.2]
  rfl
theorem vars_few {n : Nat} : ∀ p ∈ varsT n, depT p ≤ 12 ∧ FewT 2 p ∧ cntT p ≤ 1000 := by
  intro p hp
  obtain ⟨j, _, rfl⟩ := List.mem_map.1 hp
  unfold varT zeroT oneT
  refine ⟨by simp [depT, depL], by simp [FewT, FewL], by simp [cntT, cntL]⟩
theorem vars_dig {n : Nat} : ∀ p ∈ varsT n, DigT p := by
  intro p hp
  obtain ⟨j, _, rfl⟩ := List.mem_map.1 hp
  unfold varT zeroT oneT
  simp [DigT, DigL, Dig]
end Go.Proofs.YtkkliemgidhgmaaGreatDoor
