/- Contract of solution.Matrix. -/
import Derived.IntWalk
import Derived.Test.YtkkliemgidhgmaaGreatDoorMC
namespace Go.Proofs.YtkkliemgidhgmaaGreatDoor
open Go.RowKit

theorem ret_blk2 {P : Program} {fn : Func} {Q : Ending → World → Prop} {a : Act} {w : World} {p r : Tmp} {ty : TypeId} {g : Nat} {t : TypeId} {cs : Array Value} {d : TypeDesc} (hr : fn.results = #[.cell p ty, .tmp r]) (hdf : a.defers = []) (hp : a.tmps.getD p undef = .pointer (some ⟨g, 0, none⟩)) (hb : Blk w g t cs)
    (hu : P.underlying ty = some d) (hd : (match d with | .struct _ | .array _ _ => true | _ => false) = true) (hi : (P.info? ty).map (·.size) = some cs.size) (h : Q (.returned (.tuple #[.agg cs, a.tmps.getD r undef])) w) : bodyPost P fn Q Exit.ret a w := by
  refine bodyPost_ret ?_ hdf h
  have hp' : a.tmps[p]?.getD undef = .pointer (some ⟨g, 0, none⟩) := by simpa using hp
  simp [results, hr, hp', asAddr, run_loadVar_row w g t ty cs (0, 0) d hb hu hd hi]
theorem termB_len {n : Nat} {t : List Int} (h : t.length ≠ n) : termB n t = false := by simp [termB, h]
theorem ints_at {w : World} {B n k : Nat} {A : Option Addr} {l : List Int} (h : Reads w B 1 A n (l.map (Value.int .i64))) (hk : k < l.length) : ∃ b o, A = some ⟨b, o, none⟩ ∧ b < B ∧ w.cell? ⟨b, o + k, none⟩ = some (.int .i64 (l.getD k 0)) := by
  have hl := h.len
  obtain ⟨b, o, e, hb, hc⟩ := h.2 (by omega)
  refine ⟨b, o, e, hb, hc _ _ ?_⟩
  simp [List.getElem?_eq_getElem hk]
theorem getD_some {α : Type} {l : List α} {k : Nat} (h : k < l.length) (d : α) : l[k]? = some (l.getD k d) := by simp [List.getElem?_eq_getElem h]
/-- an atom in a box of its own -/
def AtomCut (Z : World) (p : RP) (r : Int) (v : Value) (wc : World) : Prop := ∃ b T A c K kc, v = .pointer (some ⟨b, 0, none⟩) ∧ CanT p T ∧ Blk wc b 35 #[.int .i64 2, .int .i64 r, .int .i64 (cpT T).lv, .bool (cpT T).ng, .slice A (cpT T).ds.length c, .slice K (cpT T).ks.length kc, .slice none 0 0] ∧
  RB wc Z.heap.size (cpT T) (rcell (cpT T) A c K kc) ∧ Below Z.heap.size Z wc
theorem AtomCut.a {Z w1 : World} {p T : RP} {r : Int} {A K : Option Addr} {c kc : Nat} (hT : CanT p T) (h2 : RB w1 Z.drew.heap.size (cpT T) (rcell (cpT T) A c K kc)) (h3 : Below Z.drew.heap.size Z.drew w1) :
    AtomCut Z p r (.pointer (some ⟨w1.heap.size, 0, none⟩)) (w1.alloc (.cells #[.int .i64 2, .int .i64 r, .int .i64 (cpT T).lv, .bool (cpT T).ng, .slice A (cpT T).ds.length c, .slice K (cpT T).ks.length kc, .slice none 0 0] 35)) := by
  have k1 := Blk.new w1 35 #[.int .i64 2, .int .i64 r, .int .i64 (cpT T).lv, .bool (cpT T).ng, .slice A (cpT T).ds.length c, .slice K (cpT T).ks.length kc, .slice none 0 0]
  have k2 := (Below.refl w1.heap.size w1).alloc (Nat.le_refl _) (.cells #[.int .i64 2, .int .i64 r, .int .i64 (cpT T).lv, .bool (cpT T).ng, .slice A (cpT T).ds.length c, .slice K (cpT T).ks.length kc, .slice none 0 0] 35)
  exact ⟨_, T, A, c, K, kc, rfl, hT, k1, RB.old h2 k2, ((Drawn.drew Z).below _).trans (h3.trans (k2.mono h3.size))⟩
theorem AtomCut.b {Z w1 : World} {p T : RP} {r : Int} {A K : Option Addr} {c kc : Nat} (hT : CanT p T) (h2 : RB w1 (Z.alloc (.cells #[.int .i64 0, .int .i64 0, .int .i64 0, .bool false, .slice none 0 0, .slice none 0 0, .slice none 0 0] 35)).drew.heap.size (cpT T) (rcell (cpT T) A c K kc))
    (h3 : Below (Z.alloc (.cells #[.int .i64 0, .int .i64 0, .int .i64 0, .bool false, .slice none 0 0, .slice none 0 0, .slice none 0 0] 35)).drew.heap.size (Z.alloc (.cells #[.int .i64 0, .int .i64 0, .int .i64 0, .bool false, .slice none 0 0, .slice none 0 0, .slice none 0 0] 35)).drew w1) : AtomCut Z p r (.pointer (some ⟨Z.heap.size, 0, none⟩)) (((((((w1.setCell ⟨Z.heap.size, 0, none⟩ (.int .i64 2)).setCell ⟨Z.heap.size, 1, none⟩ (.int .i64 r)).setCell ⟨Z.heap.size, 2, none⟩ (.int .i64 (cpT T).lv)).setCell ⟨Z.heap.size, 3, none⟩ (.bool (cpT T).ng)).setCell ⟨Z.heap.size, 4, none⟩ (.slice A (cpT T).ds.length c)).setCell ⟨Z.heap.size, 5, none⟩ (.slice K (cpT T).ks.length kc)).setCell ⟨Z.heap.size, 6, none⟩ (.slice none 0 0)) := by
  have k0 : Blk (Z.alloc (.cells #[.int .i64 0, .int .i64 0, .int .i64 0, .bool false, .slice none 0 0, .slice none 0 0, .slice none 0 0] 35)).drew Z.heap.size 35 #[.int .i64 0, .int .i64 0, .int .i64 0, .bool false, .slice none 0 0, .slice none 0 0, .slice none 0 0] := Blk.new Z 35 #[.int .i64 0, .int .i64 0, .int .i64 0, .bool false, .slice none 0 0, .slice none 0 0, .slice none 0 0]
  have hlt := k0.lt
  have hz : Below Z.heap.size Z (Z.alloc (.cells #[.int .i64 0, .int .i64 0, .int .i64 0, .bool false, .slice none 0 0, .slice none 0 0, .slice none 0 0] 35)).drew := ((Below.refl Z.heap.size Z).alloc (Nat.le_refl _) _).trans ((Drawn.drew _).below _)
  have k9 := k0.old h3
  obtain ⟨s1, s2, s3⟩ := sets7 k9 (.int .i64 2) (.int .i64 r) (.int .i64 (cpT T).lv) (.bool (cpT T).ng) (.slice A (cpT T).ds.length c) (.slice K (cpT T).ks.length kc) (.slice none 0 0)
  refine ⟨_, T, A, c, K, kc, rfl, hT, s1, ?_, (hz.trans (h3.mono (Nat.le_of_lt hlt))).trans (s3 _ (Nat.le_refl _))⟩
  exact RB.mono (RB.keep h2 (fun j cs k => s2 j _ _ (blk_ne k k9 (by decide)) k) (fun j cs hj k => s2 j _ _ (by omega) k) (Nat.le_refl _)) (Nat.le_of_lt hlt)
theorem MV.oldM {W W1 : World} {b0 : Nat} {r : Option Nat} {m : MX} {news : List Value} (h : MV W (OkM W b0 r) m news) (hb : Below W.heap.size W W1) : MV W1 (OkM W1 b0 r) m news := by
  obtain ⟨k1, k2⟩ := OkM.keep (base := b0) (r := r) (r' := r) (fun _ _ k => k.old hb) (fun _ _ _ k => k.old hb) (fun _ _ _ hr k => ⟨k.old hb, hr⟩)
  exact MV.mono k2 _ _ (MV.keep k1 _ _ h)
theorem Reads.seven_new (w : World) (cs : List Value) (h : cs.length = 7) (t : TypeId) : Reads (w.alloc (.cells cs.toArray t)) (w.heap.size + 1) 7 (some ⟨w.heap.size, 0, none⟩) 1 cs := by
  refine ⟨by omega, fun _ => ⟨_, _, rfl, by omega, fun j x hj => ?_⟩⟩
  have := (Blk.new w t cs.toArray).cell j
  rw [Nat.zero_add, this]
  simpa using hj
set_option maxHeartbeats 4000000 in
set_option maxRecDepth 100000 in
theorem mat6_any (dg : Nat) (hdg : dg ≤ 500) (ps : List RP) (ts : List (List Int)) (hD : ∀ p ∈ ps, depT p ≤ 12 ∧ FewT dg p ∧ cntT p ≤ 1000) (hpl : ps.length ≤ 1000) (htl : ts.length ≤ 1000) (K A : Option Addr) (kc c B : Nat) (w : World) (hB : B ≤ w.heap.size)
    (h : RV w (· < B) (.mk 0 false [] ps) (rcell (.mk 0 false [] ps) none 0 K kc)) (ht : ListsAt w B A ts) :
    Calls Tryz.prog 20 #[.slice K ps.length kc, .slice A ts.length c] w (MatRes ps ts w) := by
  have HR := Lib.hid (fun (W : World) (hW : Below w.heap.size w W) => h.below (hW.mono hB))
  have HT := Lib.hid (fun (W : World) (hW : Below w.heap.size w W) => ht.below (hW.mono hB))
  have HB := Lib.hid hB
  have HDD := Lib.hid hD
  have HK0 := Lib.hid (Blk.new w 35 #[.int .i64 0, .int .i64 0, .int .i64 0, .bool false, .slice none 0 0, .slice none 0 0, .slice none 0 0])
  have HB0 := Lib.hid ((Below.refl w.heap.size w).alloc (Nat.le_refl _) (.cells #[.int .i64 0, .int .i64 0, .int .i64 0, .bool false, .slice none 0 0, .slice none 0 0, .slice none 0 0] 35))
  clear h ht hB hD
  have HMR : Hid (∀ e w', (if matB ps.length ts = true then ∃ L lc, e = Ending.returned (.tuple #[.agg #[.int .i64 4, .int .i64 0, .int .i64 0, .bool false, .slice none 0 0, .slice none 0 0, .slice L ts.length lc], .int .i64 0]) ∧ MV w' (OkM w' w.heap.size none) (orM ps ts) (mcell (orM ps ts) none 0 none 0 L lc)
    else e = Ending.returned (.tuple #[.agg #[.int .i64 0, .int .i64 0, .int .i64 0, .bool false, .slice none 0 0, .slice none 0 0, .slice none 0 0], .int .i64 1])) → Below w.heap.size w w' → MatRes ps ts w e w') := Lib.hid fun e w' a b => ⟨a, b⟩
  generalize hnp : ps.length = np at *
  generalize hnt : ts.length = nt at *
  have HNP := Lib.hid hnp; have HNT := Lib.hid hnt
  clear hnp hnt
  generalize MatRes ps ts w = Post at *
  have z0 := HK0.out.lt
  have f0 := HK0.out.frozen 0; have f1 := HK0.out.frozen 1; have f2 := HK0.out.frozen 2; have f3 := HK0.out.frozen 3; have f4 := HK0.out.frozen 4; have f5 := HK0.out.frozen 5; have f6 := HK0.out.frozen 6
  have d0 := HK0.out.cell 0; have d1 := HK0.out.cell 1; have d2 := HK0.out.cell 2; have d3 := HK0.out.cell 3; have d4 := HK0.out.cell 4; have d5 := HK0.out.cell 5; have d6 := HK0.out.cell 6
  go_enter Tryz.func20, Tryz.ntmps20
  go_wp2_with fail
  generalize hg4 : w.heap.size = g4 at *
  have HG4 := Lib.hid hg4
  clear hg4
  generalize hW0 : w.alloc (.cells #[.int .i64 0, .int .i64 0, .int .i64 0, .bool false, .slice none 0 0, .slice none 0 0, .slice none 0 0] 35) = W0 at *
  clear hW0
  go_loopg [7, 9, 19] nt (fun gn _ _ ix wr => ∃ k : Nat, k ≤ nt ∧ gn = nt - k ∧ ix = .int .i64 k ∧ (ts.take k).all (termB np) = true ∧ wr = W0)
  case atStart => exact ⟨0, Nat.zero_le _, rfl, rfl, by simp, rfl⟩
  case round =>
    obtain ⟨k, hk, hgk, rfl, hok, rfl⟩ := hrel
    have HG := Lib.hid hgk
    clear hgk
    by_cases hlt : k < nt
    · obtain ⟨b1, o1, Ak, ck, rfl, hb1, c1, hsk⟩ := (HT.out _ HB0.out).at_ (k := k) (by have := HNT.out; omega)
      have htk := getD_some (l := ts) (k := k) (by have := HNT.out; omega) []
      have HBAD := Lib.hid (fun (hb : termB np (ts.getD k []) = false) => show matB np ts = false from all_bad (List.mem_of_getElem? htk) hb)
      have HNX := Lib.hid (fun (hb : termB np (ts.getD k []) = true) => all_take_succ htk hok hb)
      generalize ts.getD k [] = t at *
      clear htk hok
      have i3 : (0 : Int) ≤ (k : Int) := by omega
      have i4 : (k : Int) < (nt : Int) := by omega
      by_cases hln : t.length = np
      · have HLN := Lib.hid hln
        have e1 : ((t.length : Int) != (np : Int)) = false := by rw [hln]; simp
        generalize hm : t.length = m at *
        have HM := Lib.hid hm
        have hm1 : m ≤ 1000 := by omega
        clear hm hln
        go_wp2_with fail
        go_loopg [9, 31] m (fun gn _ ix W => ∃ j : Nat, j ≤ m ∧ gn = m - j ∧ ix = .int .i64 j ∧ (t.take j).all sgB = true ∧ W = wr)
        case atStart => exact ⟨0, Nat.zero_le _, rfl, rfl, by simp, rfl⟩
        case round =>
          obtain ⟨j, hj, hgj, rfl, hok, rfl⟩ := hrel
          have HGJ := Lib.hid hgj
          clear hgj
          by_cases hlj : j < m
          · obtain ⟨b2, o2, rfl, hb2, c2⟩ := ints_at (k := j) hsk (by have := HM.out; omega)
            have htj := getD_some (l := t) (k := j) (by have := HM.out; omega) 0
            have HBADJ := Lib.hid (fun (hb : sgB (t.getD j 0) = false) => show matB np ts = false from HBAD.out (by unfold termB; rw [all_bad (List.mem_of_getElem? htj) hb, Bool.and_false]))
            have HNXJ := Lib.hid (fun (hb : sgB (t.getD j 0) = true) => all_take_succ htj hok hb)
            generalize t.getD j 0 = x at *
            clear htj hok
            have j3 : (0 : Int) ≤ (j : Int) := by omega
            have j4 : (j : Int) < (m : Int) := by omega
            by_cases hx0 : x < 0
            · have HF := Lib.hid (HBADJ.out (by unfold sgB; rw [decide_eq_false (by omega)]; rfl))
              go_wp2_with fail
              refine ret_blk2 Tryz.results20 rfl rfl (sets7 HK0.out _ _ _ _ _ _ _).1 Tryz.underlying35 rfl Tryz.sizeMat ?_
              exact HMR.out _ _ (by rw [if_neg (by rw [HF.out]; decide)]; rfl) (HB0.out.trans ((sets7 HK0.out _ _ _ _ _ _ _).2.2 _ (Nat.le_refl _)))
            · by_cases hx7 : 7 < x
              · have HF := Lib.hid (HBADJ.out (by unfold sgB; rw [decide_eq_false (show ¬ x ≤ 7 by omega), Bool.and_false]))
                have hx0 : 0 ≤ x := by omega
                go_wp2_with fail
                refine ret_blk2 Tryz.results20 rfl rfl (sets7 HK0.out _ _ _ _ _ _ _).1 Tryz.underlying35 rfl Tryz.sizeMat ?_
                exact HMR.out _ _ (by rw [if_neg (by rw [HF.out]; decide)]; rfl) (HB0.out.trans ((sets7 HK0.out _ _ _ _ _ _ _).2.2 _ (Nat.le_refl _)))
              · have HT1 := Lib.hid (HNXJ.out (by unfold sgB; rw [decide_eq_true (show 0 ≤ x by omega), decide_eq_true (show x ≤ 7 by omega)]; rfl))
                have hx0 : 0 ≤ x := by omega
                have hx7 : x ≤ 7 := by omega
                go_wp2_with fail
                go_roundg (m - (j + 1))
                case rel => exact ⟨j + 1, by omega, rfl, by go_num, HT1.out, rfl⟩
                case measure => have := HGJ.out; omega
          · obtain rfl : j = m := by omega
            have HOK := Lib.hid (HNX.out (by unfold termB; rw [decide_eq_true (HM.out.trans HLN.out), Bool.true_and]; rw [List.take_of_length_le (by rw [HM.out]; exact Nat.le_refl _)] at hok; exact hok))
            clear hok
            go_wp2_with fail
            go_roundg (nt - (k + 1))
            case rel => exact ⟨k + 1, by omega, rfl, by go_num, HOK.out, rfl⟩
            case measure => have := HG.out; omega
      · have HF := Lib.hid (HBAD.out (termB_len hln))
        have e1 : ((t.length : Int) != (np : Int)) = true := by simp; omega
        clear hln
        go_wp2_with fail
        refine ret_blk2 Tryz.results20 rfl rfl (sets7 HK0.out _ _ _ _ _ _ _).1 Tryz.underlying35 rfl Tryz.sizeMat ?_
        exact HMR.out _ _ (by rw [if_neg (by rw [HF.out]; decide)]; rfl) (HB0.out.trans ((sets7 HK0.out _ _ _ _ _ _ _).2.2 _ (Nat.le_refl _)))
    · obtain rfl : nt = k := by omega
      have HOK := Lib.hid (show matB np ts = true by rw [List.take_of_length_le (by rw [HNT.out]; exact Nat.le_refl _)] at hok; exact hok)
      clear hok hk
      obtain ⟨wv, hwv⟩ : ∃ wv, wv = wr := ⟨_, rfl⟩
      subst hwv
      have hbx := Blk.new wv 35 #[.int .i64 4, .int .i64 0, .int .i64 0, .bool false, .slice none 0 0, .slice none 0 0, .slice none 0 0]
      have hbb := (Below.refl wv.heap.size wv).alloc (Nat.le_refl _) (.cells #[.int .i64 4, .int .i64 0, .int .i64 0, .bool false, .slice none 0 0, .slice none 0 0, .slice none 0 0] 35)
      clear d0 d1 d2 d3 d4 d5 d6 f0 f1 f2 f3 f4 f5 f6
      go_wp2_with fail
      generalize hW1 : wv.alloc (.cells #[.int .i64 4, .int .i64 0, .int .i64 0, .bool false, .slice none 0 0, .slice none 0 0, .slice none 0 0] 35) = W1 at *
      have HOR := Lib.hid (OrI.start (w := w) (W := W1) (g4 := g4) (g := wv.heap.size) (by rw [HG4.out]; exact HB0.out.trans (hbb.mono (by have := HB0.out.size; have := HG4.out; omega))) (by rw [HG4.out]; exact Nat.le_refl _) z0 (HK0.out.old hbb) hbx)
      clear hW1 hbx hbb HK0 HB0
      generalize wv.heap.size = g at *
      have HG4L := Lib.hid z0
      clear z0 hlt
      have hTL : ∀ (k : Nat), k < nt → termB np (ts.getD k []) = true := fun k hk => by
        have h1 := HOK.out
        unfold matB at h1
        rw [List.all_eq_true] at h1
        exact h1 _ (List.mem_of_getElem? (getD_some (by rw [HNT.out]; exact hk) _))
      have HTL := Lib.hid hTL
      clear hTL
      go_loopg [12, 13, 14, 15, 16, 47, 74, 76] nt (fun gn _ _ _ _ _ ix _ _ wr => ∃ (k : Nat) (v : Value), k ≤ nt ∧ gn = nt - k ∧ ix = .int .i64 k ∧ OrI w wr g4 g v ((ts.take k).map (andM ps)))
      case atStart => exact ⟨0, _, Nat.zero_le _, rfl, rfl, HOR.out⟩
      case round =>
        clear HOR
        obtain ⟨k, v, hk, hgk, rfl, hor⟩ := hrel
        have HG := Lib.hid hgk
        have HOR := Lib.hid hor
        clear hgk
        have hbw := hor.bel
        rw [HG4.out] at hbw
        by_cases hlt : k < nt
        · obtain ⟨b1, o1, Ak, ck, rfl, hb1, c1, hsk⟩ := (HT.out _ hbw).at_ (k := k) (by have := HNT.out; omega)
          have htk := getD_some (l := ts) (k := k) (by have := HNT.out; omega) []
          have HTB := Lib.hid (HTL.out k hlt)
          have HSN := Lib.hid (mapM_take ps ts k _ htk)
          generalize ts.getD k [] = t at *
          clear htk
          have i3 : (0 : Int) ≤ (k : Int) := by omega
          have i4 : (k : Int) < (nt : Int) := by omega
          have HRD := Lib.hid hsk
          have HBW := Lib.hid hbw
          obtain ⟨Ws, hWs⟩ : ∃ Ws, Ws = wr := ⟨_, rfl⟩
          subst hWs
          have hbx := Blk.new Ws 35 #[.int .i64 3, .int .i64 0, .int .i64 0, .bool false, .slice none 0 0, .slice none 0 0, .slice none 0 0]
          have hbb := (Below.refl Ws.heap.size Ws).alloc (Nat.le_refl _) (.cells #[.int .i64 3, .int .i64 0, .int .i64 0, .bool false, .slice none 0 0, .slice none 0 0, .slice none 0 0] 35)
          have hgl := Blk.lt hor.box
          clear hor hsk
          generalize hm : t.length = m at *
          have HM := Lib.hid hm
          have hm1 : m ≤ 1000 := by have h1 := HTB.out; unfold termB at h1; rw [Bool.and_eq_true, decide_eq_true_eq] at h1; omega
          clear hm
          go_wp2_with fail
          generalize hW1 : Ws.alloc (.cells #[.int .i64 3, .int .i64 0, .int .i64 0, .bool false, .slice none 0 0, .slice none 0 0, .slice none 0 0] 35) = W1 at *
          have HAN := Lib.hid (AndI.start (b0 := g + 1) hbb (Nat.le_refl _) hgl hbx)
          clear hW1 hbx hbb hbw hgl c1
          generalize hg3 : Ws.heap.size = g3 at *
          have HG3 := Lib.hid hg3
          clear hg3
          go_loopg [14, 15, 16, 54, 74, 76] m (fun gn _ _ _ ix _ _ wr => ∃ (j : Nat) (u : Value), j ≤ m ∧ gn = m - j ∧ ix = .int .i64 j ∧ AndI Ws wr (g + 1) g3 u (atms ps (t.take j)))
          case atStart => exact ⟨0, _, Nat.zero_le _, rfl, rfl, by rw [List.take_zero, atms_nil]; exact HAN.out⟩
          case round =>
            clear HAN
            obtain ⟨j, u, hj, hgj, rfl, hai⟩ := hrel
            have HGJ := Lib.hid hgj
            clear hgj
            have hB3 : B ≤ Ws.heap.size := by have := HB.out; have := HBW.out.size; have := HG4.out; omega
            have c13 : wr.cell? ⟨g3, 6, none⟩ = some u := hai.box.cell 6
            have f13 := hai.box.frozen 6; have l13 := hai.box.lt
            have hle : (atms ps (t.take j)).length ≤ 1000 := Nat.le_trans (atms_len ps _) (Nat.le_trans (List.length_take_le _ _) (by omega))
            have HAI := Lib.hid hai
            by_cases hlj : j < m
            · obtain ⟨b2, o2, rfl, hb2, c2⟩ := ints_at (k := j) (HRD.out.below (hai.bel.mono hB3)) (by have := HM.out; omega)
              have htj := getD_some (l := t) (k := j) (by have := HM.out; omega) 0
              have hpj := getD_some (l := ps) (k := j) (by have h1 := HTB.out; unfold termB at h1; rw [Bool.and_eq_true, decide_eq_true_eq] at h1; have := HM.out; have := HNP.out; omega) zeroT
              have HXB := Lib.hid (show sgB (t.getD j 0) = true by
                have h1 := HTB.out
                unfold termB at h1
                rw [Bool.and_eq_true, List.all_eq_true] at h1
                exact h1.2 _ (List.mem_of_getElem? htj))
              have HSX := Lib.hid (atms_take ps t j _ _ hpj htj)
              generalize t.getD j 0 = x at *
              generalize ps.getD j zeroT = q at *
              clear htj hai
              have j3 : (0 : Int) ≤ (j : Int) := by omega
              have j4 : (j : Int) < (m : Int) := by omega
              have j5 : (j : Int) < (np : Int) := by have h1 := HTB.out; unfold termB at h1; rw [Bool.and_eq_true, decide_eq_true_eq] at h1; have := HM.out; omega
              generalize atms ps (t.take j) = xs at *
              obtain ⟨rows, hro, hms⟩ := HAI.out.row
              by_cases hx7 : x = 7
              · subst hx7
                clear hpj hro hms
                go_wp2_with fail
                go_roundg (m - (j + 1))
                case rel => exact ⟨j + 1, u, by omega, rfl, by go_num, by rw [HSX.out]; unfold atm; rw [if_pos rfl, List.append_nil]; exact HAI.out⟩
                case measure => have := HGJ.out; omega
              · have e7 : (x == 7) = false := by simpa using hx7
                obtain ⟨i0, hi0, hz0, hz1, hz2⟩ := info_parts Tryz.infoMat
                have h63 : xs.length + 1 ≤ maxLen := by unfold maxLen; omega
                have hby : (xs.length + 1) * 104 ≤ 140737488355328 := by omega
                by_cases hx0 : x = 0
                · have HAT := Lib.hid (show atm q x = [zeroM] by unfold atm; rw [if_neg hx7, if_pos hx0])
                  subst hx0
                  clear hpj e7 hx7
                  have hb1 := (Below.refl wr.heap.size wr).alloc (Nat.le_refl _) (.cells #[.int .i64 0, .int .i64 0, .int .i64 0, .bool false, .slice none 0 0, .slice none 0 0, .slice none 0 0] 35)
                  have HB1 := Lib.hid hb1
                  have HRO := Lib.hid (own_old hro hb1)
                  have HBX := Lib.hid (HAI.out.box.old hb1)
                  have HRN := Lib.hid (Reads.seven_new wr [.int .i64 0, .int .i64 0, .int .i64 0, .bool false, .slice none 0 0, .slice none 0 0, .slice none 0 0] rfl 35)
                  have HONE := Lib.hid (show ∀ u ∈ ([.int .i64 0, .int .i64 0, .int .i64 0, .bool false, .slice none 0 0, .slice none 0 0, .slice none 0 0] : List Value), u.oneCell' = true from (MV.zero (w := wr) (S := fun _ => True)).one)
                  have hbase : g3 + 1 ≤ (wr.alloc (.cells #[.int .i64 0, .int .i64 0, .int .i64 0, .bool false, .slice none 0 0, .slice none 0 0, .slice none 0 0] 35)).heap.size := Nat.le_trans l13 hb1.size
                  have hne : some g3 ≠ u.ownBlock := fun e => by have := own_geR hro e.symm; omega
                  have HPU := Lib.hid (fun (W2 : World) (u' : Value) ho hg => HAI.out.push (W2 := W2) (u' := u') hro hms hb1 MV.zero ho hg)
                  clear hro hms hb1
                  go_wp2_with (first | (at_builtin; refine wpList_append_any _ rfl (.tmp 79) (.tmp 81) 33 rfl (g3 + 1) 35 i0 _ 7 104 Tryz.underlying33 hi0 hz0 hz1 hz2 rfl (by decide) u xs.length _ rfl HRO.out (wr.heap.size + 1) (some ⟨wr.heap.size, 0, none⟩) 1 1 [.int .i64 0, .int .i64 0, .int .i64 0, .bool false, .slice none 0 0, .slice none 0 0, .slice none 0 0] rfl HRN.out HONE.out h63 hby hbase ?_; intro v' w15 hown4 hg4' hat4; obtain ⟨Lv, cv, rfl⟩ := own_slice6 hown4; have kb := HBX.out.grown hg4' hne; have y6 : w15.cell? ⟨g3, 6, none⟩ = some u := kb.cell 6; have y7 := kb.frozen 6; have y8 := kb.lt))
                  go_roundg (m - (j + 1))
                  case rel => exact ⟨j + 1, _, by omega, rfl, by go_num, by rw [HSX.out, HAT.out]; exact HPU.out _ _ hown4 hg4'⟩
                  case measure => have := HGJ.out; omega
                · have e0 : (x == 0) = false := by simpa using hx0
                  have HAT := Lib.hid (show ∀ T, CanT q T → atm q x = [.mk 2 (relN x) (cpT T) []] by intro T hT; unfold atm; rw [if_neg hx7, if_neg hx0, nrT_eq hT])
                  clear hx7 hx0
                  have hbv := HBW.out.trans (HAI.out.bel.mono (by have := HBW.out.size; have := HG4.out; omega))
                  obtain ⟨b, o, A', c', K', kc', rfl, hbB, x0, x1, x2, x3, hku⟩ := (HR.out wr hbv).kid (i := j) (u := q) hpj
                  have hdq := HDD.out q (List.mem_of_getElem? hpj)
                  have hbw3 : B ≤ wr.heap.size := Nat.le_trans hB3 HAI.out.bel.size
                  have hlb : b < wr.heap.size := Nat.lt_of_lt_of_le hbB hbw3
                  have HN := Lib.hid (fun (V : World) (hV : Below wr.heap.size wr V) => rnorm_any dg hdg q hdq.1 hdq.2.1 hdq.2.2 A' c' K' kc' wr.heap.size V hV.size ((hku.more hbw3).below hV))
                  unfold NrmRes rval at HN
                  clear hku hdq hpj hro hms
                  have HRQ := Lib.hid (rel_any x)
                  generalize q.lv = ql at *
                  generalize q.ng = qg at *
                  generalize q.ds.length = qd at *
                  generalize q.ks.length = qk at *
                  have KF := Lib.hid (fun (V : World) (hV : Below wr.heap.size wr V) => show Below wr.heap.size wr V ∧ V.cell? ⟨b, o + j * 4, none⟩ = some (.int .i64 ql) ∧ V.cell? ⟨b, o + j * 4 + 1, none⟩ = some (.bool qg) ∧ V.cell? ⟨b, o + j * 4 + 2, none⟩ = some (.slice A' qd c') ∧ V.cell? ⟨b, o + j * 4 + 3, none⟩ = some (.slice K' qk kc') from
                    ⟨hV, (hV.cell (p := ⟨b, o + j * 4, none⟩) hlb).trans x0, (hV.cell (p := ⟨b, o + j * 4 + 1, none⟩) hlb).trans x1, (hV.cell (p := ⟨b, o + j * 4 + 2, none⟩) hlb).trans x2, (hV.cell (p := ⟨b, o + j * 4 + 3, none⟩) hlb).trans x3⟩)
                  have hZd : Below wr.heap.size wr wr.drew := (Drawn.drew _).below _
                  have hZw : Below wr.heap.size wr wr := Below.refl _ _
                  have hZa : Below wr.heap.size wr (wr.alloc (.cells #[.int .i64 0, .int .i64 0, .int .i64 0, .bool false, .slice none 0 0, .slice none 0 0, .slice none 0 0] 35)).drew := (hZw.alloc (Nat.le_refl _) _).trans ((Drawn.drew _).below _)
                  go_wp2_with fail
                  go_cut [16] (fun v wc => AtomCut wr q (relN x) v wc)
                  case first =>
                    go_region_held3 (fun w' => Below wr.heap.size wr w' ∧ w'.cell? ⟨b, o + j * 4, none⟩ = some (.int .i64 ql) ∧ w'.cell? ⟨b, o + j * 4 + 1, none⟩ = some (.bool qg) ∧ w'.cell? ⟨b, o + j * 4 + 2, none⟩ = some (.slice A' qd c') ∧ w'.cell? ⟨b, o + j * 4 + 3, none⟩ = some (.slice K' qk kc'))
                      ((refine KF.out _ ?_; repeat (first | (with_reducible exact hZd) | (with_reducible exact hZw) | (with_reducible exact hZa) | (with_reducible exact hb1) | (with_reducible refine Below.drew ?_) | ((with_reducible refine Below.alloc ?_ ?_ _); rotate_left; (first | exact Nat.le_refl _ | exact s1 | (simp; omega))) | ((with_reducible refine Below.setCell ?_ ?_ _); rotate_left; (first | exact Nat.le_refl _ | exact s1 | (simp; omega))))))
                      (first
                        | (go_at_call 40; refine (HRQ.out _).mono ?_; rintro e w9 ⟨rfl, rfl⟩)
                        | (go_at_call 24; (first | (with_reducible refine (HN.out _ hZd).mono ?_) | (with_reducible refine (HN.out _ hZa).mono ?_)); rintro e w1 ⟨T, A5, c5, K5, kc5, hT, rfl, h2, h3⟩; (first | (have hb1 := hZd.trans (h3.mono hZd.size)) | (have hb1 := hZa.trans (h3.mono hZa.size); have p1 := Blk.old (show Blk (wr.alloc (.cells #[.int .i64 0, .int .i64 0, .int .i64 0, .bool false, .slice none 0 0, .slice none 0 0, .slice none 0 0] 35)).drew wr.heap.size 35 #[.int .i64 0, .int .i64 0, .int .i64 0, .bool false, .slice none 0 0, .slice none 0 0, .slice none 0 0] from Blk.new wr _ _) h3; have y0 : w1.cell? ⟨wr.heap.size, 0, none⟩ = some (.int .i64 0) := p1.cell 0; have y1 : w1.cell? ⟨wr.heap.size, 1, none⟩ = some (.int .i64 0) := p1.cell 1; have y2 : w1.cell? ⟨wr.heap.size, 2, none⟩ = some (.int .i64 0) := p1.cell 2; have y3 : w1.cell? ⟨wr.heap.size, 3, none⟩ = some (.bool false) := p1.cell 3; have y4 : w1.cell? ⟨wr.heap.size, 4, none⟩ = some (.slice none 0 0) := p1.cell 4; have y5 : w1.cell? ⟨wr.heap.size, 5, none⟩ = some (.slice none 0 0) := p1.cell 5; have y6 : w1.cell? ⟨wr.heap.size, 6, none⟩ = some (.slice none 0 0) := p1.cell 6; have f0 := p1.frozen 0; have f1 := p1.frozen 1; have f2 := p1.frozen 2; have f3 := p1.frozen 3; have f4 := p1.frozen 4; have f5 := p1.frozen 5; have f6 := p1.frozen 6; have z9 := p1.lt)); have s1 := hb1.size))
                    all_goals go_wp2_with fail
                    all_goals go_meet
                    all_goals first | (with_reducible exact AtomCut.a hT h2 h3) | (with_reducible exact AtomCut.b hT h2 h3)
                  case rest =>
                    obtain ⟨gb, T, A5, c5, K5, kc5, rfl, hT, hbk, hrb, hbz⟩ := hcut
                    have hac := HAI.out.old hbz
                    obtain ⟨rows, hro, hms⟩ := hac.row
                    have hgb : g + 1 ≤ wr.heap.size := Nat.le_trans HAI.out.b0le HAI.out.bel.size
                    have y0 : wc.cell? ⟨gb, 0, none⟩ = some (.int .i64 2) := hbk.cell 0
                    have y1 : wc.cell? ⟨gb, 1, none⟩ = some (.int .i64 (relN x)) := hbk.cell 1
                    have y2 : wc.cell? ⟨gb, 2, none⟩ = some (.int .i64 (cpT T).lv) := hbk.cell 2
                    have y3 : wc.cell? ⟨gb, 3, none⟩ = some (.bool (cpT T).ng) := hbk.cell 3
                    have y4 : wc.cell? ⟨gb, 4, none⟩ = some (.slice A5 (cpT T).ds.length c5) := hbk.cell 4
                    have y5 : wc.cell? ⟨gb, 5, none⟩ = some (.slice K5 (cpT T).ks.length kc5) := hbk.cell 5
                    have y6 : wc.cell? ⟨gb, 6, none⟩ = some (.slice none 0 0) := hbk.cell 6
                    have yg := hbk.lt
                    have z13 : wc.cell? ⟨g3, 6, none⟩ = some u := hac.box.cell 6
                    have zf13 := hac.box.frozen 6; have zl13 := hac.box.lt
                    have hb1 := (Below.refl wc.heap.size wc).alloc (Nat.le_refl _) (.cells #[.int .i64 2, .int .i64 (relN x), .int .i64 (cpT T).lv, .bool (cpT T).ng, .slice A5 (cpT T).ds.length c5, .slice K5 (cpT T).ks.length kc5, .slice none 0 0] 35)
                    have HRO := Lib.hid (own_old hro hb1)
                    have HBX := Lib.hid (hac.box.old hb1)
                    have HRN := Lib.hid (Reads.seven_new wc [.int .i64 2, .int .i64 (relN x), .int .i64 (cpT T).lv, .bool (cpT T).ng, .slice A5 (cpT T).ds.length c5, .slice K5 (cpT T).ks.length kc5, .slice none 0 0] rfl 35)
                    have hmv : MV (wc.alloc (.cells #[.int .i64 2, .int .i64 (relN x), .int .i64 (cpT T).lv, .bool (cpT T).ng, .slice A5 (cpT T).ds.length c5, .slice K5 (cpT T).ks.length kc5, .slice none 0 0] 35)) (OkS (wc.alloc (.cells #[.int .i64 2, .int .i64 (relN x), .int .i64 (cpT T).lv, .bool (cpT T).ng, .slice A5 (cpT T).ds.length c5, .slice K5 (cpT T).ks.length kc5, .slice none 0 0] 35)) (g + 1)) (.mk 2 (relN x) (cpT T) []) [.int .i64 2, .int .i64 (relN x), .int .i64 (cpT T).lv, .bool (cpT T).ng, .slice A5 (cpT T).ds.length c5, .slice K5 (cpT T).ks.length kc5, .slice none 0 0] := MV.leaf (RB.mono (RB.old hrb hb1) hgb)
                    have HONE := Lib.hid hmv.one
                    have hbase : g3 + 1 ≤ (wc.alloc (.cells #[.int .i64 2, .int .i64 (relN x), .int .i64 (cpT T).lv, .bool (cpT T).ng, .slice A5 (cpT T).ds.length c5, .slice K5 (cpT T).ks.length kc5, .slice none 0 0] 35)).heap.size := Nat.le_trans zl13 hb1.size
                    have hne : some g3 ≠ u.ownBlock := fun e => by have := own_geR hro e.symm; omega
                    have HPU := Lib.hid (fun (W2 : World) (u' : Value) ho hg => hac.push (W2 := W2) (u' := u') hro hms hb1 hmv ho hg)
                    have HAT1 := Lib.hid (HAT.out T hT)
                    clear HN HRQ KF hZd hZw hZa x0 x1 x2 x3 hlb hbk hrb hbz hac hro hms hb1 hmv hT HAT c2 c13 f13 l13
                    generalize (cpT T).lv = tl at *
                    generalize (cpT T).ng = tg at *
                    generalize (cpT T).ds.length = td at *
                    generalize (cpT T).ks.length = tk at *
                    go_wp2_with (first | (at_builtin; refine wpList_append_any _ rfl (.tmp 69) (.tmp 71) 33 rfl (g3 + 1) 35 i0 _ 7 104 Tryz.underlying33 hi0 hz0 hz1 hz2 rfl (by decide) u xs.length _ rfl HRO.out (wc.heap.size + 1) (some ⟨wc.heap.size, 0, none⟩) 1 1 [.int .i64 2, .int .i64 (relN x), .int .i64 tl, .bool tg, .slice A5 td c5, .slice K5 tk kc5, .slice none 0 0] rfl HRN.out HONE.out h63 hby hbase ?_; intro v' w15 hown4 hg4' hat4; obtain ⟨Lv, cv, rfl⟩ := own_slice6 hown4; have kb := HBX.out.grown hg4' hne; have y6 : w15.cell? ⟨g3, 6, none⟩ = some u := kb.cell 6; have y7 := kb.frozen 6; have y8 := kb.lt))
                    go_roundg (m - (j + 1))
                    case rel => exact ⟨j + 1, _, by omega, rfl, by go_num, by rw [HSX.out, HAT1.out]; exact HPU.out _ _ hown4 hg4'⟩
                    case measure => have := HGJ.out; omega
            · obtain rfl : j = m := by omega
              have HSE := Lib.hid (show atms ps (t.take j) = atms ps t by rw [List.take_of_length_le (by rw [HM.out]; exact Nat.le_refl _)])
              have ho := HOR.out.old (HAI.out.bel)
              obtain ⟨rows, hro, hms⟩ := ho.row
              obtain ⟨LA, ca, rfl, hmv⟩ := HAI.out.done HOR.out.ownlt
              have hml : ((ts.take k).map (andM ps)).length ≤ 1000 := by rw [List.length_map]; exact Nat.le_trans (List.length_take_le _ _) (by omega)
              have y0 : wr.cell? ⟨g3, 0, none⟩ = some (.int .i64 3) := hai.box.cell 0
              have y1 : wr.cell? ⟨g3, 1, none⟩ = some (.int .i64 0) := hai.box.cell 1
              have y2 : wr.cell? ⟨g3, 2, none⟩ = some (.int .i64 0) := hai.box.cell 2
              have y3 : wr.cell? ⟨g3, 3, none⟩ = some (.bool false) := hai.box.cell 3
              have y4 : wr.cell? ⟨g3, 4, none⟩ = some (.slice none 0 0) := hai.box.cell 4
              have y5 : wr.cell? ⟨g3, 5, none⟩ = some (.slice none 0 0) := hai.box.cell 5
              have z6 : wr.cell? ⟨g, 6, none⟩ = some v := ho.box.cell 6
              have zf6 := ho.box.frozen 6; have zl6 := ho.box.lt
              clear hai HAI
              rw [HSE.out] at c13 hmv
              have hmv : MV wr (OkM wr (g + 1) v.ownBlock) (andM ps t) (mcell (andM ps t) none 0 none 0 LA ca) := hmv
              generalize hna : (atms ps t).length = na at *
              have hb1 := (Below.refl wr.heap.size wr).alloc (Nat.le_refl _) (.cells #[.int .i64 3, .int .i64 0, .int .i64 0, .bool false, .slice none 0 0, .slice none 0 0, .slice LA na ca] 35)
              have HRO := Lib.hid (own_old hro hb1)
              have HBX := Lib.hid (ho.box.old hb1)
              have HRN := Lib.hid (Reads.seven_new wr [.int .i64 3, .int .i64 0, .int .i64 0, .bool false, .slice none 0 0, .slice none 0 0, .slice LA na ca] rfl 35)
              have hmv1 : MV (wr.alloc (.cells #[.int .i64 3, .int .i64 0, .int .i64 0, .bool false, .slice none 0 0, .slice none 0 0, .slice LA na ca] 35)) (OkM (wr.alloc (.cells #[.int .i64 3, .int .i64 0, .int .i64 0, .bool false, .slice none 0 0, .slice none 0 0, .slice LA na ca] 35)) (g + 1) v.ownBlock) (andM ps t) [.int .i64 3, .int .i64 0, .int .i64 0, .bool false, .slice none 0 0, .slice none 0 0, .slice LA na ca] := by
                have := hmv.oldM hb1
                have e : mcell (andM ps t) none 0 none 0 LA ca = [.int .i64 3, .int .i64 0, .int .i64 0, .bool false, .slice none 0 0, .slice none 0 0, .slice LA na ca] := by unfold mcell andM; simp only [MX.kd, MX.rl, MX.p, MX.ks, hna]; rfl
                rw [e] at this
                exact this
              have HONE := Lib.hid hmv1.one
              have hbase : g + 1 ≤ (wr.alloc (.cells #[.int .i64 3, .int .i64 0, .int .i64 0, .bool false, .slice none 0 0, .slice none 0 0, .slice LA na ca] 35)).heap.size := Nat.le_trans zl6 hb1.size
              have hne : some g ≠ v.ownBlock := fun e => by have := own_geR hro e.symm; omega
              have HPU := Lib.hid (fun (W2 : World) (v' : Value) h1 h2 h3 => ho.push (W2 := W2) (v' := v') hro hms hb1 hmv1 h1 h2 h3)
              obtain ⟨i0, hi0, hz0, hz1, hz2⟩ := info_parts Tryz.infoMat
              generalize (ts.take k).map (andM ps) = ms at *
              have h63 : ms.length + 1 ≤ maxLen := by unfold maxLen; omega
              have hby : (ms.length + 1) * 104 ≤ 140737488355328 := by omega
              clear hms hro hb1 hmv hmv1 ho hna
              go_wp2_with (first | (at_builtin; refine wpList_append_any _ rfl (.tmp 86) (.tmp 88) 33 rfl (g + 1) 35 i0 _ 7 104 Tryz.underlying33 hi0 hz0 hz1 hz2 rfl (by decide) v ms.length _ rfl HRO.out (wr.heap.size + 1) (some ⟨wr.heap.size, 0, none⟩) 1 1 [.int .i64 3, .int .i64 0, .int .i64 0, .bool false, .slice none 0 0, .slice none 0 0, .slice LA na ca] rfl HRN.out HONE.out h63 hby hbase ?_; intro v' w15 hown4 hg4' hat4; obtain ⟨Lv, cv, rfl⟩ := own_slice6 hown4; have kb := HBX.out.grown hg4' hne; have y6 : w15.cell? ⟨g, 6, none⟩ = some v := kb.cell 6; have y7 := kb.frozen 6; have y8 := kb.lt))
              go_roundg (nt - (k + 1))
              case rel => exact ⟨k + 1, _, by omega, rfl, by go_num, by rw [HSN.out]; exact HPU.out _ _ hown4 hg4' hat4⟩
              case measure => have := HG.out; omega
        · obtain rfl : nt = k := by omega
          have HSE := Lib.hid (show (ts.take nt).map (andM ps) = ts.map (andM ps) by rw [List.take_of_length_le (by rw [HNT.out]; exact Nat.le_refl _)])
          rw [HSE.out] at hor
          have y0 : wr.cell? ⟨g, 0, none⟩ = some (.int .i64 4) := hor.box.cell 0
          have y1 : wr.cell? ⟨g, 1, none⟩ = some (.int .i64 0) := hor.box.cell 1
          have y2 : wr.cell? ⟨g, 2, none⟩ = some (.int .i64 0) := hor.box.cell 2
          have y3 : wr.cell? ⟨g, 3, none⟩ = some (.bool false) := hor.box.cell 3
          have y4 : wr.cell? ⟨g, 4, none⟩ = some (.slice none 0 0) := hor.box.cell 4
          have y5 : wr.cell? ⟨g, 5, none⟩ = some (.slice none 0 0) := hor.box.cell 5
          have y6 : wr.cell? ⟨g, 6, none⟩ = some v := hor.box.cell 6
          have d0 : wr.cell? ⟨g4, 0, none⟩ = some (.int .i64 0) := hor.res.cell 0
          have d1 : wr.cell? ⟨g4, 1, none⟩ = some (.int .i64 0) := hor.res.cell 1
          have d2 : wr.cell? ⟨g4, 2, none⟩ = some (.int .i64 0) := hor.res.cell 2
          have d3 : wr.cell? ⟨g4, 3, none⟩ = some (.bool false) := hor.res.cell 3
          have d4 : wr.cell? ⟨g4, 4, none⟩ = some (.slice none 0 0) := hor.res.cell 4
          have d5 : wr.cell? ⟨g4, 5, none⟩ = some (.slice none 0 0) := hor.res.cell 5
          have d6 : wr.cell? ⟨g4, 6, none⟩ = some (.slice none 0 0) := hor.res.cell 6
          have f0 := hor.res.frozen 0; have f1 := hor.res.frozen 1; have f2 := hor.res.frozen 2; have f3 := hor.res.frozen 3; have f4 := hor.res.frozen 4; have f5 := hor.res.frozen 5; have f6 := hor.res.frozen 6
          have z0 := hor.res.lt; have zl := hor.box.lt
          obtain ⟨s1, s2, s3⟩ := sets7 hor.res (.int .i64 4) (.int .i64 0) (.int .i64 0) (.bool false) (.slice none 0 0) (.slice none 0 0) v
          obtain ⟨LV, lv, hv, hmv⟩ := hor.fin s2
          have HS1 := Lib.hid s1
          rw [HG4.out] at hmv
          have HMV := Lib.hid hmv
          have HBF := Lib.hid (hbw.trans (s3 _ (Nat.le_refl _)))
          subst hv
          have hln : (ts.map (andM ps)).length = nt := by rw [List.length_map, HNT.out]
          generalize hml : (ts.map (andM ps)).length = ml at *
          subst hln
          clear hor HOR s1 s2 s3 hmv hbw
          go_wp2_with fail
          refine ret_blk2 Tryz.results20 rfl rfl HS1.out Tryz.underlying35 rfl Tryz.sizeMat ?_
          exact HMR.out _ _ (by rw [if_pos HOK.out]; exact ⟨LV, lv, rfl, HMV.out⟩) HBF.out
end Go.Proofs.YtkkliemgidhgmaaGreatDoor
