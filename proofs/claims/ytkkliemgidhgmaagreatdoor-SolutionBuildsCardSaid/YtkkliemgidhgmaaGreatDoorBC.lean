/- Contract of the law's terms: the terms read back from the matrix of variables. -/
import Derived.IntWalk
import Derived.RegionTactic
import Derived.BigRegion
import Derived.Test.YtkkliemgidhgmaaGreatDoorBP
import Derived.Test.YtkkliemgidhgmaaGreatDoorQS
namespace Go.Proofs.YtkkliemgidhgmaaGreatDoor
open Go.RowKit

theorem Tryz.infoIntB : (Tryz.prog.info? 3).map (fun i => (i.zero, i.size, i.bytes)) = some (some (.int .i64 0), 1, 8) := by kernel_rfl
def RowR (w : World) (A : Option Addr) (t : List Int) : Prop := t = [] ∨ ∃ (g : Nat) (cs : Array Value), A = some ⟨g, 0, none⟩ ∧ Blk w g 3 cs ∧ ∀ (j : Nat) (x : Int), t[j]? = some x → cs[j]? = some (.int .i64 x)
theorem RowR.keep {w w' : World} {A : Option Addr} {t : List Int} (h : RowR w A t) (hk : ∀ g cs, Blk w g 3 cs → Blk w' g 3 cs) : RowR w' A t := by
  rcases h with h | ⟨g, cs, h1, h2, h3⟩
  · exact .inl h
  · exact .inr ⟨g, cs, h1, hk _ _ h2, h3⟩
theorem RowR.reads {w : World} {A : Option Addr} {t : List Int} (h : RowR w A t) : Reads w w.heap.size 1 A t.length (t.map (Value.int .i64)) := by
  rcases h with rfl | ⟨g, cs, rfl, h2, h3⟩
  · exact Reads.none_
  · refine ⟨by simp, fun _ => ⟨g, 0, rfl, h2.lt, fun j u hu => ?_⟩⟩
    rw [List.getElem?_map] at hu
    cases hj : t[j]? with
    | none => rw [hj] at hu; simp at hu
    | some x =>
      rw [hj] at hu
      simp at hu
      subst hu
      rw [Nat.zero_add, h2.cell]
      exact h3 j x hj
def RowsR (w : World) (xs : List Value) (ts : List (List Int)) : Prop := xs.length = ts.length ∧ ∀ (k : Nat) (t : List Int), ts[k]? = some t → ∃ (A : Option Addr) (c : Nat), xs[k]? = some (.slice A t.length c) ∧ RowR w A t
theorem RowsR.keep {w w' : World} {xs : List Value} {ts : List (List Int)} (h : RowsR w xs ts) (hk : ∀ g cs, Blk w g 3 cs → Blk w' g 3 cs) : RowsR w' xs ts :=
  ⟨h.1, fun k t ht => by obtain ⟨A, c, h1, h2⟩ := h.2 k t ht; exact ⟨A, c, h1, h2.keep hk⟩⟩
theorem RowsR.snoc {w : World} {xs : List Value} {ts : List (List Int)} {A : Option Addr} {c : Nat} {t : List Int} (h : RowsR w xs ts) (ht : RowR w A t) : RowsR w (xs ++ [.slice A t.length c]) (ts ++ [t]) := by
  refine ⟨by simp [h.1], fun k u hu => ?_⟩
  by_cases hk : k < ts.length
  · rw [List.getElem?_append_left hk] at hu
    rw [List.getElem?_append_left (by rw [h.1]; exact hk)]
    exact h.2 k u hu
  · rw [List.getElem?_append_right (by omega)] at hu
    rw [List.getElem?_append_right (by rw [h.1]; omega), h.1]
    have h0 : k - ts.length = 0 := by have := (List.getElem?_eq_some_iff.1 hu).1; simp at this; omega
    rw [h0] at hu ⊢
    simp at hu
    subst hu
    exact ⟨A, c, rfl, ht⟩
/-- a row of integers that a call has appended -/
theorem RowR.of_own {w : World} {base n : Nat} {A : Option Addr} {c : Nat} {t : List Int} (hl : t.length = n) (h : w.ownsRow base 3 1 (.slice A n c) n (t.map (Value.int .i64))) : RowR w A t := by
  by_cases h0 : t = []
  · exact .inl h0
  · have hn : 0 < n := by rw [← hl]; exact List.length_pos_iff.2 h0
    obtain ⟨g, c', e, _, _⟩ := h.form hn
    injection e with e1 e2 e3
    subst e1; subst e3
    obtain ⟨cur, hk, _, _, hx⟩ := own_blk h
    refine .inr ⟨g, cur, rfl, hk, fun j x hj => hx j _ ?_⟩
    rw [List.getElem?_map, hj]
    rfl
def boxT (nt : Nat) (A : Option Addr) (c : Nat) (K : Option Addr) (kc : Nat) (L : Option Addr) (lc : Nat) : Array Value := #[.int .i64 4, .int .i64 0, .int .i64 0, .bool false, .slice A 0 c, .slice K 0 kc, .slice L nt lc]
structure TI (w W : World) (bx : Array Value) (v : Value) (ts : List (List Int)) : Prop where
  bel : Below w.heap.size w W
  box : Blk W w.heap.size 35 bx
  sets : Blk W (w.heap.size + 1) 3 (intArr setsA)
  row : ∃ xs, W.ownsRow (w.heap.size + 2) 59 1 v ts.length xs ∧ RowsR W xs ts
theorem TI.push {w W W1 W2 : World} {bx : Array Value} {v v' : Value} {ts : List (List Int)} {xs : List Value} {t : List Int} {n : Nat} {A : Option Addr} {c : Nat} (h : TI w W bx v ts) (hr : W.ownsRow (w.heap.size + 2) 59 1 v ts.length xs) (hm : RowsR W xs ts)
    (h1 : Below W.heap.size W W1) (hl : t.length = n) (ht : W1.ownsRow W.heap.size 3 1 (.slice A n c) n (t.map (Value.int .i64)))
    (ho : W2.ownsRow (w.heap.size + 2) 59 1 v' (ts.length + 1) (xs ++ [.slice A n c])) (hg : (W1.alloc (.cells #[.slice A n c] 59)).grownBy W2 v.ownBlock) : TI w W2 bx v' (ts ++ [t]) := by
  have ha := (Below.refl W1.heap.size W1).alloc (Nat.le_refl _) (.cells #[.slice A n c] 59)
  have h2 := h1.trans (ha.mono h1.size)
  have hr1 := own_old hr h2
  have kt : ∀ (t : TypeId) j ds, 59 ≠ t → Blk (W1.alloc (.cells #[.slice A n c] 59)) j t ds → Blk W2 j t ds := fun t j ds hne k => k.grown hg (own_blk_ne hr1 k hne)
  have hb2 : Below w.heap.size (W1.alloc (.cells #[.slice A n c] 59)) W2 := ⟨hg.os, hg.tape, hg.output, hg.size, fun k hk => hg.block k (by have := h.bel.size; have := h2.size; omega) (fun e => by have := own_geR hr e.symm; omega)⟩
  refine ⟨(h.bel.trans (h2.mono h.bel.size)).trans hb2, kt _ _ _ (by decide) (h.box.old h2), kt _ _ _ (by decide) (h.sets.old h2), _, by simpa using ho, ?_⟩
  subst hl
  exact (hm.keep fun g cs k => kt _ _ _ (by decide) (k.old h2)).snoc ((RowR.of_own rfl ht).keep fun g cs k => kt _ _ _ (by decide) (k.old ha))
theorem TI.fin {w W : World} {bx : Array Value} {v : Value} {ts : List (List Int)} (h : TI w W bx v ts) : ∃ A c, v = .slice A ts.length c ∧ ListsAt W W.heap.size A ts := by
  obtain ⟨xs, h1, h2⟩ := h.row
  obtain ⟨L, lc, rfl⟩ := own_slice6 h1
  refine ⟨L, lc, rfl, fun h0 => ?_⟩
  obtain ⟨g', lc', e, hb, hl⟩ := h1.form h0
  injection e with e1 e2 e3
  subst e1; subst e3
  obtain ⟨cur, hk, _, hc, hx⟩ := own_blk h1
  refine ⟨g', 0, rfl, hl, fun k hk2 => ?_⟩
  have ht := getD_someB hk2 []
  obtain ⟨A, c, k1, k2⟩ := h2.2 k _ ht
  refine ⟨A, c, ?_, k2.reads⟩
  rw [Nat.zero_add, hk.cell]
  exact hx k _ k1
def TermsRes (ts : List (List Int)) (w : World) (e : Ending) (w' : World) : Prop := ∃ A1 c1, e = .returned (.tuple #[.slice A1 ts.length c1, .bool true]) ∧ ListsAt w' w'.heap.size A1 ts ∧ Below w.heap.size w w'
theorem TI.start (w : World) (bx : Array Value) : TI w ((w.alloc (.cells bx 35)).alloc (.cells (intArr setsA) 3)) bx (.slice none 0 0) [] := by
  have h0 := (Below.refl w.heap.size w).alloc (Nat.le_refl _) (.cells bx 35)
  have h1 := h0.alloc (by simp) (.cells (intArr setsA) 3)
  refine ⟨h1, (Blk.new w _ _).alloc _, ?_, [], ⟨rfl, .inl ⟨rfl, rfl⟩⟩, rfl, fun k t ht => by simp at ht⟩
  have := Blk.new (w.alloc (.cells bx 35)) 3 (intArr setsA)
  rwa [World.size_alloc] at this
set_option maxHeartbeats 4000000 in
set_option maxRecDepth 100000 in
theorem terms_any (n : Nat) (hn : n ≤ 4) (ts : List (List Int)) (hts : ts.length ≤ 90) (hok : TermsOk n ts) (A : Option Addr) (c : Nat) (K : Option Addr) (kc : Nat) (L : Option Addr) (lc B : Nat) (w : World) (hB : B ≤ w.heap.size)
    (h : MV w (· < B) (orM (varsT n) ts) (mcell (orM (varsT n) ts) A c K kc L lc)) :
    Calls Tryz.prog 11 #[.agg #[.int .i64 4, .int .i64 0, .int .i64 0, .bool false, .slice A 0 c, .slice K 0 kc, .slice L ts.length lc], .int .i64 (n : Int)] w (TermsRes ts w) := by
  have HM := Lib.hid (fun (W : World) (hW : Below w.heap.size w W) => h.below (hW.mono hB))
  have HB := Lib.hid hB
  have HOK := Lib.hid hok
  have HLC := Lib.hid (show ts.length ≤ lc by have := h.node.2; unfold orM at this; simpa [MX.ks] using this)
  have HPOST := Lib.hid (fun (W : World) (v : Value) (h : TI w W (boxT ts.length A c K kc L lc) v ts) => show TermsRes ts w (.returned (.tuple #[v, .bool true])) W by
    obtain ⟨A1, c1, rfl, h1⟩ := h.fin
    exact ⟨A1, c1, rfl, h1, h.bel⟩)
  have HST := Lib.hid (TI.start w (boxT ts.length A c K kc L lc))
  clear h hB hok
  generalize TermsRes ts w = Post at *
  generalize hnt : ts.length = nt at *
  have HNT := Lib.hid hnt
  clear hnt
  obtain ⟨i0, hi0, hz0, hz1, hz2⟩ := info_parts Tryz.infoIntB
  obtain ⟨i9, hi9, hy0, hy1, hy2⟩ := info_parts Tryz.infoSolT
  have c6 := HST.out.box.cell 6
  have c0 := HST.out.box.cell 0
  go_enter Tryz.func11, Tryz.ntmps11
  go_wp2_with fail
  have HSTB := Lib.hid (HST.out.bel)
  clear c6 c0
  go_loopg [7, 19] nt (fun gn v ix wr => ∃ k : Nat, k ≤ nt ∧ gn = nt - k ∧ ix = .int .i64 k ∧ TI w wr (boxT nt A c K kc L lc) v (ts.take k))
  case atStart => exact ⟨0, Nat.zero_le _, rfl, rfl, HST.out⟩
  case round =>
    clear HST HSTB
    obtain ⟨k, hk, hgk, rfl, hti⟩ := hrel
    have HG := Lib.hid hgk
    clear hgk
    by_cases hlt : k < nt
    · have htk := getD_someB (l := ts) (k := k) (by have := HNT.out; omega) []
      have HTK := Lib.hid (show ts.take (k + 1) = ts.take k ++ [ts.getD k []] by
        rw [List.take_add_one, htk]; rfl)
      have HTL := Lib.hid (show (ts.take k).length = k by have := HNT.out; rw [List.length_take]; omega)
      have hok1 := HOK.out _ (List.mem_of_getElem? htk)
      generalize ts.getD k [] = t at *
      obtain ⟨htl, hte⟩ := hok1
      have hkid : (orM (varsT n) ts).ks[k]? = some (andM (varsT n) t) := by unfold orM; simp [MX.ks, htk]
      have hkids : (andM (varsT n) t).ks = (posL t n).map atV := by
        have := atms_pos htl (fun i hi => by have := (hte i hi).1; omega) n (Nat.le_refl _)
        rw [List.take_of_length_le (by omega)] at this
        exact this
      obtain ⟨b, o, A1, c1, K1, kc1, L1, lc1, rfl, hbB, hx, hku⟩ := (HM.out wr hti.bel).kid hkid
      have x0 : wr.cell? ⟨b, o + k * 7, none⟩ = some (.int .i64 3) := hx 0 _ rfl
      have x6 : wr.cell? ⟨b, o + k * 7 + 6, none⟩ = some (.slice L1 (posL t n).length lc1) := by
        have := hx 6 _ rfl
        rw [hkids, List.length_map] at this
        exact this
      have hbw : b < wr.heap.size := Nat.lt_of_lt_of_le hbB (Nat.le_trans HB.out hti.bel.size)
      have HKU := Lib.hid (fun (W : World) (hW : Below wr.heap.size wr W) => hku.below (hW.mono (Nat.le_trans HB.out hti.bel.size)))
      have HX0 := Lib.hid (fun (W : World) (hW : Below wr.heap.size wr W) => (hW.cell (p := ⟨b, o + k * 7, none⟩) hbw).trans x0)
      have HX6 := Lib.hid (fun (W : World) (hW : Below wr.heap.size wr W) => (hW.cell (p := ⟨b, o + k * 7 + 6, none⟩) hbw).trans x6)
      have HTI := Lib.hid hti
      have HLC1 := Lib.hid (show (posL t n).length ≤ lc1 by have := hku.node.2; rw [hkids, List.length_map] at this; exact this)
      have HKS := Lib.hid hkids
      have HTT := Lib.hid htl; have HTE := Lib.hid hte
      have i3 : (0 : Int) ≤ (k : Int) := by omega
      have i4 : (k : Int) < (nt : Int) := by omega
      have i5 : (nt : Int) ≤ (lc : Int) := by have := HLC.out; omega
      clear htk hkid hkids hx hku x0 x6 hti htl hte
      have hul := posL_len t n
      generalize hun : (posL t n).length = un at *
      have HUN := Lib.hid hun
      clear hun
      have HB1 := Lib.hid ((Below.refl wr.heap.size wr).alloc (Nat.le_refl _) (.cells #[] 3))
      have HO1 := Lib.hid (show (wr.alloc (.cells #[] 3)).ownsRow wr.heap.size 3 1 (.slice (some ⟨wr.heap.size, 0, none⟩) 0 0) 0 (List.replicate 0 (Value.int .i64 7)) from ⟨rfl, .inr ⟨_, _, _, rfl, Nat.le_refl _, heap_alloc_new wr _, Nat.le_refl _, by unfold maxLen; omega, rfl, rfl⟩⟩)
      go_wp2_with fail
      rename World => wo
      go_loopg [9, 24] n (fun gn v ix W => ∃ m : Nat, m ≤ n ∧ gn = n - m ∧ ix = .int .i64 m ∧ W.ownsRow wo.heap.size 3 1 v m (List.replicate m (Value.int .i64 7)) ∧ Below wo.heap.size wo W)
      case atStart => exact ⟨0, Nat.zero_le _, rfl, rfl, HO1.out, HB1.out⟩
      case round =>
        clear HB1 HO1
        obtain ⟨m, hm, hgm, rfl, hown, hbw1⟩ := hrel
        have HGM := Lib.hid hgm
        clear hgm
        by_cases hlm : m < n
        · have hrd := Reads.one_new wr (.int .i64 7) 3
          have hownA := hown.alloc (.cells #[.int .i64 7] 3)
          have hbA := hbw1.alloc hbw1.size (.cells #[.int .i64 7] 3)
          have hrep : List.replicate (m + 1) (Value.int .i64 7) = List.replicate m (Value.int .i64 7) ++ [.int .i64 7] := List.replicate_succ'
          have HREP := Lib.hid hrep
          have h63 : m + 1 ≤ maxLen := by unfold maxLen; omega
          have hby : (m + 1) * 8 ≤ 140737488355328 := by omega
          have hbase : wo.heap.size ≤ (wr.alloc (.cells #[.int .i64 7] 3)).heap.size := hbA.size
          have HBA := Lib.hid hbA
          have HOA := Lib.hid hownA
          have j4 : (m : Int) < (n : Int) := by omega
          clear hrep hown hbw1 hbA
          go_wp2_with (at_builtin; refine wpList_append_any _ rfl (.tmp 26) (.tmp 27) 59 rfl wo.heap.size 3 i0 _ 1 8 Tryz.underlying59 hi0 hz0 hz1 hz2 rfl (Nat.le_refl _) u9 m _ rfl HOA.out (wr.heap.size + 1) (some ⟨wr.heap.size, 0, none⟩) 1 1 [.int .i64 7] rfl hrd (by intro u hu; simp at hu; subst hu; rfl) h63 hby hbase ?_; intro v' w2 hown2 hg2 hat2; refine Hid.out ?_)
          refine Lib.hid ?_
          have HB2 := Lib.hid (HBA.out.grown hg2 HBA.out.size (fun q hq => (HOA.out.lt q hq).1))
          rw [← HREP.out] at hown2
          have HO2 := Lib.hid hown2
          clear hown2 hg2 hat2 hrd hownA hbase h63 hby
          go_wp2_with fail
          go_roundg (n - (m + 1))
          case rel => exact ⟨m + 1, by omega, rfl, by go_num, HO2.out, HB2.out⟩
          case measure => have := HGM.out; omega
        · obtain rfl : n = m := by omega
          have cb : wr.cell? ⟨w.heap.size, 6, none⟩ = some (.slice (some ⟨b, o, none⟩) nt lc) := (HTI.out.box.old hbw1).cell 6
          have cx0 := HX0.out wr hbw1
          have cx6 := HX6.out wr hbw1
          have HOW := Lib.hid (show wr.ownsRow wo.heap.size 3 1 u9 n ((fillU n ((posL t n).take 0)).map (Value.int .i64)) by rw [fill_start, List.map_replicate]; exact hown)
          have HBW := Lib.hid hbw1
          clear hown hbw1
          go_wp2_with fail
          clear cb cx0 cx6
          rename World => wi
          go_loopg [45] un (fun gn ix W => ∃ j : Nat, j ≤ un ∧ gn = un - j ∧ ix = .int .i64 j ∧ W.ownsRow wo.heap.size 3 1 u9 n ((fillU n ((posL t n).take j)).map (Value.int .i64)) ∧ Below wo.heap.size wo W)
          case atStart => exact ⟨0, Nat.zero_le _, rfl, rfl, HOW.out, HBW.out⟩
          case round =>
            clear HOW HBW
            obtain ⟨j, hj, hgj, rfl, hown, hbw2⟩ := hrel
            have HGJ := Lib.hid hgj
            clear hgj
            by_cases hlj : j < un
            · obtain ⟨x, hx⟩ : ∃ x, (posL t n)[j]? = some x := ⟨_, List.getElem?_eq_getElem (by rw [HUN.out]; exact hlj)⟩
              have hsx := HKS.out
              obtain ⟨i, hi, rfl, h7, hfl, hf7, hfs⟩ := fill_at HTT.out hx
              have hte := HTE.out i hi
              have hat : (andM (varsT n) t).ks[j]? = some (atV (i, t.getD i 0)) := by rw [hsx, List.getElem?_map, hx]; rfl
              obtain ⟨b2, o2, A2, q2, K2, r2, L2, l2, rfl, hb2B, hy, hkk⟩ := (HKU.out wr hbw2).kid hat
              have y0 : wr.cell? ⟨b2, o2 + j * 7, none⟩ = some (.int .i64 2) := hy 0 _ rfl
              have y1 : wr.cell? ⟨b2, o2 + j * 7 + 1, none⟩ = some (.int .i64 (relN (t.getD i 0))) := hy 1 _ rfl
              have y2 : wr.cell? ⟨b2, o2 + j * 7 + 2, none⟩ = some (.int .i64 ((i : Int) + 1)) := by
                have h2 : wr.cell? ⟨b2, o2 + j * 7 + 2, none⟩ = some (.int .i64 (nrT (varT ((i : Int) + 1))).lv) := hy 2 _ rfl
                rw [varT_nr (by omega) (by omega)] at h2
                exact h2
              obtain ⟨hr1, hr6, hrs⟩ := rel_back hte.1 (by omega)
              generalize t.getD i 0 = s at *
              obtain ⟨r, hr⟩ : ∃ r : Nat, relN s = (r : Int) := ⟨(relN s).toNat, by omega⟩
              rw [hr] at y1 hr1 hr6 hrs
              have z1 : wr.cell? ⟨w.heap.size + 1, r, none⟩ = some (.int .i64 s) := by
                have h1 := (HTI.out.sets.old hbw2).cell r
                rw [h1, ← hrs]
                have hr7 : r < 7 := by omega
                match r, hr7 with
                | 0, _ => rfl
                | 1, _ => rfl
                | 2, _ => rfl
                | 3, _ => rfl
                | 4, _ => rfl
                | 5, _ => rfl
                | 6, _ => rfl
              obtain ⟨g9, cap9, rfl, hbg, hlg⟩ := hown.form (by omega)
              obtain ⟨cur, hk9, _, _, hx9⟩ := own_blk hown
              have z0 : wr.cell? ⟨g9, i, none⟩ = some (.int .i64 7) := by
                rw [hk9.cell]
                refine hx9 i _ ?_
                rw [List.getElem?_map, getD_someB (l := fillU n ((posL t n).take j)) (k := i) (by omega) 0, hf7]
                rfl
              have f9 := hk9.frozen i
              have HOS := Lib.hid (show (wr.setCell ⟨g9, i, none⟩ (.int .i64 s)).ownsRow wo.heap.size 3 1 (.slice (some ⟨g9, 0, none⟩) n cap9) n ((fillU n ((posL t n).take (j + 1))).map (Value.int .i64)) by
                have := own_set hown i (.int .i64 s)
                rw [← List.map_set] at this
                rw [hfs]
                exact this)
              have HBS := Lib.hid (hbw2.setCell (p := ⟨g9, i, none⟩) hbg (.int .i64 s))
              have j3 : (0 : Int) ≤ (j : Int) := by omega
              have j4 : (j : Int) < (un : Int) := by omega
              have j5 : (un : Int) ≤ (lc1 : Int) := by have := HLC1.out; omega
              have j6 : (i : Int) < (n : Int) := by omega
              have j7 : (i : Int) + 1 ≤ (n : Int) := by omega
              have j8 : (0 : Int) ≤ (i : Int) := by omega
              have j9 : (1 : Int) ≤ (i : Int) + 1 := by omega
              have e1 : (i : Int) + 1 - 1 = (i : Int) := by omega
              have e2 : IntKind.i64.wrap ((i : Int) + 1 - 1) = (i : Int) := by rw [e1]; exact IntWalk.i64_in _ (by omega)
              have j10 : (r : Int) < 7 := by omega
              have hr1' : (1 : Int) ≤ (r : Int) := hr1
              clear hkk hx hsx h7 hfl hf7 hfs hte hat hy hr hrs hown hbw2 hk9 hx9 hbg hlg
              go_wp2_with fail
              go_region
              all_goals
                go_wp2_with fail
                go_roundg (un - (j + 1))
                case rel => exact ⟨j + 1, by omega, rfl, by go_num, HOS.out, HBS.out.trans ((Drawn.drew _).below _)⟩
                case measure => have := HGJ.out; omega
            · obtain rfl : un = j := by omega
              have hownt : wr.ownsRow wo.heap.size 3 1 u9 n (t.map (Value.int .i64)) := by
                have h1 := fill_end HTT.out
                rw [HUN.out] at h1
                rw [h1] at hown
                exact hown
              obtain ⟨A9, c9, rfl⟩ := own_slice6 hownt
              obtain ⟨xs, hro, hrr⟩ := HTI.out.row
              have hro' := hro
              rw [HTL.out] at hro
              have hrd := Reads.one_new wr (.slice A9 n c9) 59
              have ha := (Below.refl wr.heap.size wr).alloc (Nat.le_refl _) (.cells #[.slice A9 n c9] 59)
              have hroA := own_old (own_old hro hbw2) ha
              have h63 : k + 1 ≤ maxLen := by unfold maxLen; omega
              have hby : (k + 1) * 24 ≤ 140737488355328 := by omega
              have hbase : w.heap.size + 2 ≤ (wr.alloc (.cells #[.slice A9 n c9] 59)).heap.size := by
                have h1 := HTI.out.sets.lt
                have h2 := hbw2.size
                rw [World.size_alloc]
                omega
              have HPU := Lib.hid (fun (W2 : World) (v' : Value) ho hg => HTI.out.push (W2 := W2) (v' := v') (t := t) hro' hrr hbw2 HTT.out hownt (by rw [HTL.out]; exact ho) hg)
              have HOA := Lib.hid hroA
              clear hown hownt hro hro' hrr hbw2 ha hroA
              go_wp2_with (at_builtin; refine wpList_append_any _ rfl (.tmp 120) (.tmp 122) 42 rfl (w.heap.size + 2) 59 i9 _ 1 24 Tryz.underlying42 hi9 hy0 hy1 hy2 rfl (Nat.le_refl _) u7 k xs rfl HOA.out (wr.heap.size + 1) (some ⟨wr.heap.size, 0, none⟩) 1 1 [.slice A9 n c9] rfl hrd (by intro u hu; simp at hu; subst hu; rfl) h63 hby hbase ?_; intro v' w2 hown2 hg2 hat2; refine Hid.out ?_)
              refine Lib.hid ?_
              have HN := Lib.hid (HPU.out w2 v' hown2 hg2)
              clear hown2 hg2 hat2 hrd hbase h63 hby
              go_wp2_with fail
              go_roundg (nt - (k + 1))
              case rel => exact ⟨k + 1, by omega, rfl, by go_num, by rw [HTK.out]; exact HN.out⟩
              case measure => have := HG.out; omega
    · obtain rfl : nt = k := by omega
      have HFIN := Lib.hid (HPOST.out wr u7 (by rw [List.take_of_length_le (by rw [HNT.out]; exact Nat.le_refl _)] at hti; exact hti))
      clear hti
      go_wp2_with fail
      exact HFIN.out
end Go.Proofs.YtkkliemgidhgmaaGreatDoor
