/- Contract of the reference's Matrix (printed by wip/tools/genme.py). -/
import Derived.Deep.AppendLies
import Derived.Deep.RegionLaw
import Derived.Test.YtkkliemgidhgmaaGreatDoorMD
namespace Go.Proofs.YtkkliemgidhgmaaGreatDoor
open Go.RowKit

theorem atom_push {Ws wr w3 W2 : World} {b0 g : Nat} {u u' : Value} {xs : List MX} {rows : List (List Value)} {T : RP} {r : Int} {A5 K5 : Option Addr} {c5 kc5 : Nat} (hai : AndI Ws wr b0 g u xs) (hro : wr.ownsRow (g + 1) 35 7 u xs.length rows.flatten) (hms : MVs wr (OkS wr b0) xs rows)
    (h2 : RB w3 wr.drew.heap.size (cpT T) (rcell (cpT T) A5 c5 K5 kc5)) (h3 : Below wr.drew.heap.size wr.drew w3)
    (ho : W2.ownsRow (g + 1) 35 7 u' (xs.length + 1) (rows.flatten ++ [.int .i64 2, .int .i64 r, .int .i64 (cpT T).lv, .bool (cpT T).ng, .slice A5 (cpT T).ds.length c5, .slice K5 (cpT T).ks.length kc5, .slice none 0 0])) (hg : (w3.alloc (.cells #[.int .i64 2, .int .i64 r, .int .i64 (cpT T).lv, .bool (cpT T).ng, .slice A5 (cpT T).ds.length c5, .slice K5 (cpT T).ks.length kc5, .slice none 0 0] 35)).grownBy W2 u.ownBlock) : AndI Ws (W2.setCell ⟨g, 6, none⟩ u') b0 g u' (xs ++ [.mk 2 r (cpT T) []]) := by
  have hba := (Below.refl w3.heap.size w3).alloc (Nat.le_refl _) (.cells #[.int .i64 2, .int .i64 r, .int .i64 (cpT T).lv, .bool (cpT T).ng, .slice A5 (cpT T).ds.length c5, .slice K5 (cpT T).ks.length kc5, .slice none 0 0] 35)
  have hb1 : Below wr.heap.size wr (w3.alloc (.cells #[.int .i64 2, .int .i64 r, .int .i64 (cpT T).lv, .bool (cpT T).ng, .slice A5 (cpT T).ds.length c5, .slice K5 (cpT T).ks.length kc5, .slice none 0 0] 35)) := ((Drawn.drew wr).below _).trans (h3.trans (hba.mono h3.size))
  have hgb : b0 ≤ wr.drew.heap.size := Nat.le_trans hai.b0le hai.bel.size
  exact hai.push hro hms hb1 (MV.leaf (RB.mono (RB.old h2 hba) hgb)) ho hg
theorem table_at {w : World} {g n : Nat} (h : Blk w g 25 #[.int .i64 0, .int .i64 1, .int .i64 3, .int .i64 2, .int .i64 6, .int .i64 4, .int .i64 5]) (h0 : 0 < n) (h7 : n < 7) : w.cell? ⟨g, n, none⟩ = some (.int .i64 (relN (n : Int))) := by
  rw [h.cell]
  rcases (by omega : n = 1 ∨ n = 2 ∨ n = 3 ∨ n = 4 ∨ n = 5 ∨ n = 6) with rfl | rfl | rfl | rfl | rfl | rfl <;> rfl
set_option maxHeartbeats 4000000 in
set_option maxRecDepth 100000 in
theorem mat7_any (dg : Nat) (hdg : dg ≤ 500) (ps : List RP) (ts : List (List Int)) (hD : ∀ p ∈ ps, depT p ≤ 12 ∧ FewT dg p ∧ cntT p ≤ 1000) (hpl : ps.length ≤ 1000) (htl : ts.length ≤ 1000) (K A : Option Addr) (kc c B : Nat) (w : World) (hB : B ≤ w.heap.size)
    (h : RV w (· < B) (.mk 0 false [] ps) (rcell (.mk 0 false [] ps) none 0 K kc)) (ht : ListsAt w B A ts) :
    Calls Tryz.prog 12 #[.slice K ps.length kc, .slice A ts.length c] w (MatRes ps ts w) := by
  have HR := Lib.hid (fun (W : World) (hW : Below w.heap.size w W) => h.below (hW.mono hB))
  have HT := Lib.hid (fun (W : World) (hW : Below w.heap.size w W) => ht.below (hW.mono hB))
  have HB := Lib.hid hB
  have HDD := Lib.hid hD
  have HX := Lib.hid (boxes3 w 35 25 35 #[.int .i64 0, .int .i64 0, .int .i64 0, .bool false, .slice none 0 0, .slice none 0 0, .slice none 0 0] #[.int .i64 0, .int .i64 1, .int .i64 3, .int .i64 2, .int .i64 6, .int .i64 4, .int .i64 5] #[.int .i64 4, .int .i64 0, .int .i64 0, .bool false, .slice none 0 0, .slice none 0 0, .slice none 0 0])
  clear h ht hB hD
  have HMR : Hid (∀ e w', (if matB ps.length ts = true then ∃ L lc, e = Ending.returned (.tuple #[.agg #[.int .i64 4, .int .i64 0, .int .i64 0, .bool false, .slice none 0 0, .slice none 0 0, .slice L ts.length lc], .int .i64 0]) ∧ MV w' (OkM w' w.heap.size none) (orM ps ts) (mcell (orM ps ts) none 0 none 0 L lc)
    else e = Ending.returned (.tuple #[.agg #[.int .i64 0, .int .i64 0, .int .i64 0, .bool false, .slice none 0 0, .slice none 0 0, .slice none 0 0], .int .i64 1])) → Below w.heap.size w w' → MatRes ps ts w e w') := Lib.hid fun e w' a b => ⟨a, b⟩
  generalize hnp : ps.length = np at *
  generalize hnt : ts.length = nt at *
  have HNP := Lib.hid hnp; have HNT := Lib.hid hnt
  clear hnp hnt
  generalize MatRes ps ts w = Post at *
  go_enter Tryz.func12, Tryz.ntmps12
  go_wp2_with fail
  generalize hW0 : ((w.alloc (.cells #[.int .i64 0, .int .i64 0, .int .i64 0, .bool false, .slice none 0 0, .slice none 0 0, .slice none 0 0] 35)).alloc (.cells #[.int .i64 0, .int .i64 1, .int .i64 3, .int .i64 2, .int .i64 6, .int .i64 4, .int .i64 5] 25)).alloc (.cells #[.int .i64 4, .int .i64 0, .int .i64 0, .bool false, .slice none 0 0, .slice none 0 0, .slice none 0 0] 35) = W0 at *
  clear hW0
  obtain ⟨hb0, k0, k1, k2, hs⟩ := HX.out
  have HOR := Lib.hid (OrI.start (w := w) (W := W0) (g4 := w.heap.size) (g := w.heap.size + 1 + 1) hb0 (Nat.le_refl _) (by omega) k0 k2)
  have HKT := Lib.hid k1
  have HGT := Lib.hid (show w.heap.size + 1 ≠ w.heap.size + 1 + 1 by omega)
  clear HX hb0 k0 k1 k2 hs
  generalize w.heap.size + 1 + 1 = g at *
  generalize w.heap.size + 1 = gt at *
  generalize hg4 : w.heap.size = g4 at *
  have HG4 := Lib.hid hg4
  clear hg4
  go_loopg [8, 9, 10, 11, 16] nt (fun gn _ _ _ _ ix wr => ∃ (k : Nat) (v : Value), k ≤ nt ∧ gn = nt - k ∧ ix = .int .i64 k ∧ OrI w wr g4 g v ((ts.take k).map (andM ps)) ∧ (ts.take k).all (termB np) = true ∧ Blk wr gt 25 #[.int .i64 0, .int .i64 1, .int .i64 3, .int .i64 2, .int .i64 6, .int .i64 4, .int .i64 5])
  case atStart => exact ⟨0, _, Nat.zero_le _, rfl, rfl, HOR.out, by simp, HKT.out⟩
  case round =>
    clear HOR HKT
    obtain ⟨k, v, hk, hgk, rfl, hor, hok, hkt⟩ := hrel
    have HG := Lib.hid hgk
    have HOR := Lib.hid hor
    have HKT := Lib.hid hkt
    clear hgk hkt
    have hbw := hor.bel
    rw [HG4.out] at hbw
    by_cases hlt : k < nt
    · obtain ⟨b1, o1, Ak, ck, rfl, hb1, c1, hsk⟩ := (HT.out _ hbw).at_ (k := k) (by have := HNT.out; omega)
      have htk := getD_some (l := ts) (k := k) (by have := HNT.out; omega) []
      have HBAD := Lib.hid (fun (hb : termB np (ts.getD k []) = false) => show matB np ts = false from all_bad (List.mem_of_getElem? htk) hb)
      have HNX := Lib.hid (fun (hb : termB np (ts.getD k []) = true) => all_take_succ htk hok hb)
      have HSN := Lib.hid (mapM_take ps ts k _ htk)
      generalize ts.getD k [] = t at *
      clear htk hok
      have i3 : (0 : Int) ≤ (k : Int) := by omega
      have i4 : (k : Int) < (nt : Int) := by omega
      have HRD := Lib.hid hsk
      have HBW := Lib.hid hbw
      by_cases hln : t.length = np
      · have HLN := Lib.hid hln
        have e1 : ((np : Int) != (np : Int)) = false := by simp
        rw [hln] at c1
        clear hln
        obtain ⟨Ws, hWs⟩ : ∃ Ws, Ws = wr := ⟨_, rfl⟩
        subst hWs
        have hbx := Blk.new Ws 35 #[.int .i64 3, .int .i64 0, .int .i64 0, .bool false, .slice none 0 0, .slice none 0 0, .slice none 0 0]
        have hbb := (Below.refl Ws.heap.size Ws).alloc (Nat.le_refl _) (.cells #[.int .i64 3, .int .i64 0, .int .i64 0, .bool false, .slice none 0 0, .slice none 0 0, .slice none 0 0] 35)
        have hgl := Blk.lt hor.box
        clear hor hsk
        go_wp2_with fail
        generalize hW1 : Ws.alloc (.cells #[.int .i64 3, .int .i64 0, .int .i64 0, .bool false, .slice none 0 0, .slice none 0 0, .slice none 0 0] 35) = W1 at *
        have HAN := Lib.hid (AndI.start (b0 := g + 1) hbb (Nat.le_refl _) hgl hbx)
        have HC1 := Lib.hid c1
        clear hW1 hbx hbb hbw hgl c1
        generalize hg3 : Ws.heap.size = g3 at *
        have HG3 := Lib.hid hg3
        clear hg3
        go_loopg [10, 11, 31] np (fun gn _ _ ix wr => ∃ (j : Nat) (u : Value), j ≤ np ∧ gn = np - j ∧ ix = .int .i64 j ∧ AndI Ws wr (g + 1) g3 u (atms ps (t.take j)) ∧ (t.take j).all sgB = true)
        case atStart => exact ⟨0, _, Nat.zero_le _, rfl, rfl, by rw [List.take_zero, atms_nil]; exact HAN.out, by simp⟩
        case round =>
          clear HAN
          obtain ⟨j, u, hj, hgj, rfl, hai, hokj⟩ := hrel
          have HGJ := Lib.hid hgj
          clear hgj
          have hB3 : B ≤ Ws.heap.size := by have := HB.out; have := HBW.out.size; have := HG4.out; omega
          have c13 : wr.cell? ⟨g3, 6, none⟩ = some u := hai.box.cell 6
          have f13 := hai.box.frozen 6; have l13 := hai.box.lt
          have hle : (atms ps (t.take j)).length ≤ 1000 := Nat.le_trans (atms_len ps _) (Nat.le_trans (List.length_take_le _ _) (by omega))
          have HAI := Lib.hid hai
          have hbw := HBW.out.trans (hai.bel.mono (by have := HBW.out.size; have := HG4.out; omega))
          by_cases hlj : j < np
          · have c1 := (hai.bel.cell (p := ⟨b1, o1 + k, none⟩) (show b1 < Ws.heap.size by omega)).trans HC1.out
            obtain ⟨b2, o2, rfl, hb2, c2⟩ := ints_at (k := j) (HRD.out.below (hai.bel.mono hB3)) (by have := HLN.out; omega)
            have htj := getD_some (l := t) (k := j) (by have := HLN.out; omega) 0
            have hpj := getD_some (l := ps) (k := j) (by have := HNP.out; omega) zeroT
            have HBADJ := Lib.hid (fun (hb : sgB (t.getD j 0) = false) => show matB np ts = false from HBAD.out (by unfold termB; rw [all_bad (List.mem_of_getElem? htj) hb, Bool.and_false]))
            have HNXJ := Lib.hid (fun (hb : sgB (t.getD j 0) = true) => all_take_succ htj hokj hb)
            have HSX := Lib.hid (atms_take ps t j _ _ hpj htj)
            have hres := (HOR.out.old hai.bel).res
            generalize t.getD j 0 = x at *
            generalize ps.getD j zeroT = q at *
            clear htj hai hokj
            have j3 : (0 : Int) ≤ (j : Int) := by omega
            have j4 : (j : Int) < (np : Int) := by omega
            generalize atms ps (t.take j) = xs at *
            obtain ⟨rows, hro, hms⟩ := HAI.out.row
            by_cases hx0 : x < 0
            · have HF := Lib.hid (HBADJ.out (by unfold sgB; rw [decide_eq_false (by omega)]; rfl))
              clear hpj hro hms
              have d0 : wr.cell? ⟨g4, 0, none⟩ = some (.int .i64 0) := hres.cell 0
              have d1 : wr.cell? ⟨g4, 1, none⟩ = some (.int .i64 0) := hres.cell 1
              have d2 : wr.cell? ⟨g4, 2, none⟩ = some (.int .i64 0) := hres.cell 2
              have d3 : wr.cell? ⟨g4, 3, none⟩ = some (.bool false) := hres.cell 3
              have d4 : wr.cell? ⟨g4, 4, none⟩ = some (.slice none 0 0) := hres.cell 4
              have d5 : wr.cell? ⟨g4, 5, none⟩ = some (.slice none 0 0) := hres.cell 5
              have d6 : wr.cell? ⟨g4, 6, none⟩ = some (.slice none 0 0) := hres.cell 6
              have f0 := hres.frozen 0; have f1 := hres.frozen 1; have f2 := hres.frozen 2; have f3 := hres.frozen 3; have f4 := hres.frozen 4; have f5 := hres.frozen 5; have f6 := hres.frozen 6
              have z0 := hres.lt
              have HRS := Lib.hid hres; have HBE := Lib.hid hbw
              clear hres hbw
              go_wp2_with fail
              refine ret_blk2 Tryz.results12 rfl rfl (sets7 HRS.out _ _ _ _ _ _ _).1 Tryz.underlying35 rfl Tryz.sizeMat ?_
              exact HMR.out _ _ (by rw [if_neg (by rw [HF.out]; decide)]; rfl) (HBE.out.trans ((sets7 HRS.out _ _ _ _ _ _ _).2.2 _ (Nat.le_refl _)))
            by_cases hx7 : 7 < x
            · have HF := Lib.hid (HBADJ.out (by unfold sgB; rw [decide_eq_false (show ¬ x ≤ 7 by omega), Bool.and_false]))
              have hx0 : 0 ≤ x := by omega
              clear hpj hro hms
              have d0 : wr.cell? ⟨g4, 0, none⟩ = some (.int .i64 0) := hres.cell 0
              have d1 : wr.cell? ⟨g4, 1, none⟩ = some (.int .i64 0) := hres.cell 1
              have d2 : wr.cell? ⟨g4, 2, none⟩ = some (.int .i64 0) := hres.cell 2
              have d3 : wr.cell? ⟨g4, 3, none⟩ = some (.bool false) := hres.cell 3
              have d4 : wr.cell? ⟨g4, 4, none⟩ = some (.slice none 0 0) := hres.cell 4
              have d5 : wr.cell? ⟨g4, 5, none⟩ = some (.slice none 0 0) := hres.cell 5
              have d6 : wr.cell? ⟨g4, 6, none⟩ = some (.slice none 0 0) := hres.cell 6
              have f0 := hres.frozen 0; have f1 := hres.frozen 1; have f2 := hres.frozen 2; have f3 := hres.frozen 3; have f4 := hres.frozen 4; have f5 := hres.frozen 5; have f6 := hres.frozen 6
              have z0 := hres.lt
              have HRS := Lib.hid hres; have HBE := Lib.hid hbw
              clear hres hbw
              go_wp2_with fail
              refine ret_blk2 Tryz.results12 rfl rfl (sets7 HRS.out _ _ _ _ _ _ _).1 Tryz.underlying35 rfl Tryz.sizeMat ?_
              exact HMR.out _ _ (by rw [if_neg (by rw [HF.out]; decide)]; rfl) (HBE.out.trans ((sets7 HRS.out _ _ _ _ _ _ _).2.2 _ (Nat.le_refl _)))
            have HT1 := Lib.hid (HNXJ.out (by unfold sgB; rw [decide_eq_true (show 0 ≤ x by omega), decide_eq_true (show x ≤ 7 by omega)]; rfl))
            have hx0 : 0 ≤ x := by omega
            have hx7 : x ≤ 7 := by omega
            clear hres
            obtain ⟨i0, hi0, hz0, hz1, hz2⟩ := info_parts Tryz.infoMat
            have h63 : xs.length + 1 ≤ maxLen := by unfold maxLen; omega
            have hby : (xs.length + 1) * 104 ≤ 140737488355328 := by omega
            by_cases hxz : x = 0
            · have HAT := Lib.hid (show atm q x = [zeroM] by unfold atm; rw [if_neg (by omega), if_pos hxz])
              subst hxz
              clear hpj
              have hb1 := (Below.refl wr.heap.size wr).alloc (Nat.le_refl _) (.cells #[.int .i64 0, .int .i64 0, .int .i64 0, .bool false, .slice none 0 0, .slice none 0 0, .slice none 0 0] 35)
              have HB1 := Lib.hid hb1
              have HRO := Lib.hid (own_old hro hb1)
              have HBX := Lib.hid (HAI.out.box.old hb1)
              have HRN := Lib.hid (Reads.seven_new wr [.int .i64 0, .int .i64 0, .int .i64 0, .bool false, .slice none 0 0, .slice none 0 0, .slice none 0 0] rfl 35)
              have HONE := Lib.hid (show ∀ u ∈ ([.int .i64 0, .int .i64 0, .int .i64 0, .bool false, .slice none 0 0, .slice none 0 0, .slice none 0 0] : List Value), u.oneCell' = true from (MV.zero (w := wr) (S := fun _ => True)).one)
              have hbase : g3 + 1 ≤ (wr.alloc (.cells #[.int .i64 0, .int .i64 0, .int .i64 0, .bool false, .slice none 0 0, .slice none 0 0, .slice none 0 0] 35)).heap.size := Nat.le_trans l13 hb1.size
              have hne : some g3 ≠ u.ownBlock := fun e => by have := own_geR hro e.symm; omega
              have HPU := Lib.hid (fun (W2 : World) (u' : Value) ho hg => HAI.out.push (W2 := W2) (u' := u') hro hms hb1 MV.zero ho hg)
              clear hro hms hb1
              go_wp2_with (first | (at_builtin; refine wpList_append_any _ rfl (.tmp 51) (.tmp 53) 33 rfl (g3 + 1) 35 i0 _ 7 104 Tryz.underlying33 hi0 hz0 hz1 hz2 rfl (by decide) u xs.length _ rfl HRO.out (wr.heap.size + 1) (some ⟨wr.heap.size, 0, none⟩) 1 1 [.int .i64 0, .int .i64 0, .int .i64 0, .bool false, .slice none 0 0, .slice none 0 0, .slice none 0 0] rfl HRN.out HONE.out h63 hby hbase ?_; intro v' w15 hown4 hg4' hat4; obtain ⟨Lv, cv, rfl⟩ := own_slice6 hown4; have kb := HBX.out.grown hg4' hne; have y6 : w15.cell? ⟨g3, 6, none⟩ = some u := kb.cell 6; have y7 := kb.frozen 6; have y8 := kb.lt))
              go_roundg (np - (j + 1))
              case rel => exact ⟨j + 1, _, by omega, rfl, by go_num, by rw [HSX.out, HAT.out]; exact HPU.out _ _ hown4 hg4', HT1.out⟩
              case measure => have := HGJ.out; omega
            have ez : (x == 0) = false := by simpa using hxz
            by_cases hxs : x = 7
            · subst hxs
              clear hpj hro hms
              go_wp2_with fail
              go_roundg (np - (j + 1))
              case rel => exact ⟨j + 1, u, by omega, rfl, by go_num, by rw [HSX.out]; unfold atm; rw [if_pos rfl, List.append_nil]; exact HAI.out, HT1.out⟩
              case measure => have := HGJ.out; omega
            have hxl : x < 7 := by omega
            obtain ⟨n, rfl⟩ : ∃ n : Nat, x = (n : Int) := ⟨x.toNat, by omega⟩
            have HAT := Lib.hid (show ∀ T, CanT q T → atm q (n : Int) = [.mk 2 (relN (n : Int)) (cpT T) []] by intro T hT; unfold atm; rw [if_neg hxs, if_neg hxz, nrT_eq hT])
            have hkt := HKT.out.old HAI.out.bel
            have ct := table_at (n := n) hkt (by omega) (by omega)
            have lt9 := hkt.lt
            have n7 : n < 7 := by omega
            obtain ⟨b, o, A', c', K', kc', rfl, hbB, x0, x1, x2, x3, hku⟩ := (HR.out wr hbw).kid (i := j) (u := q) hpj
            have hdq := HDD.out q (List.mem_of_getElem? hpj)
            have hbw3 : B ≤ wr.heap.size := Nat.le_trans hB3 HAI.out.bel.size
            have hlb : b < wr.heap.size := Nat.lt_of_lt_of_le hbB hbw3
            have HN := Lib.hid (rnorm_any dg hdg q hdq.1 hdq.2.1 hdq.2.2 A' c' K' kc' wr.heap.size wr.drew (Nat.le_refl _) ((hku.more hbw3).below ((Drawn.drew wr).below _)))
            unfold NrmRes rval at HN
            have HPU := Lib.hid (fun (w3 W2 : World) (u' : Value) (T : RP) (A5 K5 : Option Addr) (c5 kc5 : Nat) h2 h3 ho hg => atom_push (w3 := w3) (W2 := W2) (u' := u') (T := T) (r := relN (n : Int)) (A5 := A5) (K5 := K5) (c5 := c5) (kc5 := kc5) HAI.out hro hms h2 h3 ho hg)
            have hne : some g3 ≠ u.ownBlock := fun e => by have := own_geR hro e.symm; omega
            have HMVL := Lib.hid (fun (W w3 : World) (T : RP) (A5 K5 : Option Addr) (c5 kc5 : Nat) (h2 : RB w3 wr.drew.heap.size (cpT T) (rcell (cpT T) A5 c5 K5 kc5)) => (MV.leaf (k := 2) (r := relN (n : Int)) h2).one)
            have hbx3 := HAI.out.box
            clear hku hdq hpj hms hkt hbw hxz hxs HC1
            generalize q.lv = ql at *
            generalize q.ng = qg at *
            generalize q.ds.length = qd at *
            generalize q.ks.length = qk at *
            have bn : (0 : Int) ≤ (n : Int) := by omega
            go_wp2_with fail
            clear c1 c2
            go_region_law (first
              | (refine step_append_any _ rfl (.tmp 59) (.tmp 70) 33 (by rfl) (g3 + 1) 35 i0 _ 7 104 Tryz.underlying33 hi0 hz0 hz1 hz2 rfl (by decide) u xs.length rows.flatten (by rfl) roX (w3.heap.size + 1) (some ⟨w3.heap.size, 0, none⟩) 1 1 [.int .i64 2, .int .i64 (relN (n : Int)), .int .i64 (cpT T).lv, .bool (cpT T).ng, .slice A5 (cpT T).ds.length c5, .slice K5 (cpT T).ks.length kc5, .slice none 0 0] (by rfl) hrd hone h63 hby hbX ?_
                 intro v' w4 hown4 hg4' hat4
                 obtain ⟨Lv, cv, rfl⟩ := own_slice6 hown4
                 have gb4 := gbX.grown hg4' hne
                 have y1 : w4.cell? ⟨g3, 6, none⟩ = some u := gb4.cell 6
                 have y2 := gb4.frozen 6
                 have y3 := gb4.lt)
              | (go_simp
                 go_at_call 24
                 refine HN.out.mono ?_
                 rintro e w3 ⟨T, A5, c5, K5, kc5, hT, rfl, h2, h3⟩
                 have z1 := (h3.cell (p := ⟨g3, 6, none⟩) l13).trans c13
                 have z2 := (h3.cell (p := ⟨gt, n, none⟩) lt9).trans ct
                 have hrd := Reads.seven_new w3 [.int .i64 2, .int .i64 (relN (n : Int)), .int .i64 (cpT T).lv, .bool (cpT T).ng, .slice A5 (cpT T).ds.length c5, .slice K5 (cpT T).ks.length kc5, .slice none 0 0] rfl 35
                 have hone := HMVL.out w3 w3 T A5 K5 c5 kc5 h2
                 have hba := (Below.refl w3.heap.size w3).alloc (Nat.le_refl _) (.cells #[.int .i64 2, .int .i64 (relN (n : Int)), .int .i64 (cpT T).lv, .bool (cpT T).ng, .slice A5 (cpT T).ds.length c5, .slice K5 (cpT T).ks.length kc5, .slice none 0 0] 35)
                 have hb1 : Below wr.heap.size wr (w3.alloc (.cells #[.int .i64 2, .int .i64 (relN (n : Int)), .int .i64 (cpT T).lv, .bool (cpT T).ng, .slice A5 (cpT T).ds.length c5, .slice K5 (cpT T).ks.length kc5, .slice none 0 0] 35)) := ((Drawn.drew wr).below _).trans (h3.trans (hba.mono h3.size))
                 have gbX := hbx3.old hb1
                 have roX := own_old hro hb1
                 have hbX : g3 + 1 ≤ (w3.alloc (.cells #[.int .i64 2, .int .i64 (relN (n : Int)), .int .i64 (cpT T).lv, .bool (cpT T).ng, .slice A5 (cpT T).ds.length c5, .slice K5 (cpT T).ks.length kc5, .slice none 0 0] 35)).heap.size := Nat.le_trans l13 hb1.size
                 have z6 : (w3.alloc (.cells #[.int .i64 2, .int .i64 (relN (n : Int)), .int .i64 (cpT T).lv, .bool (cpT T).ng, .slice A5 (cpT T).ds.length c5, .slice K5 (cpT T).ks.length kc5, .slice none 0 0] 35)).cell? ⟨g3, 6, none⟩ = some u := gbX.cell 6))
            all_goals
              go_wp2_with fail
              go_roundg (np - (j + 1))
              case rel => exact ⟨j + 1, _, by omega, rfl, by go_num, by rw [HSX.out, HAT.out T hT]; exact HPU.out w3 w4 _ T A5 K5 c5 kc5 h2 h3 hown4 hg4', HT1.out⟩
              case measure => have := HGJ.out; omega
          · obtain rfl : j = np := by omega
            have HTB := Lib.hid (show termB j t = true by unfold termB; rw [decide_eq_true HLN.out, Bool.true_and]; rw [List.take_of_length_le (by rw [HLN.out]; exact Nat.le_refl _)] at hokj; exact hokj)
            have HSE := Lib.hid (show atms ps (t.take j) = atms ps t by rw [List.take_of_length_le (by rw [HLN.out]; exact Nat.le_refl _)])
            have ho := HOR.out.old (HAI.out.bel)
            have hkt := HKT.out.old (HAI.out.bel)
            obtain ⟨rows, hro, hms⟩ := ho.row
            obtain ⟨LA, ca, rfl, hmv⟩ := HAI.out.done HOR.out.ownlt
            have hml : ((ts.take k).map (andM ps)).length ≤ 1000 := by rw [List.length_map]; exact Nat.le_trans (List.length_take_le _ _) (by omega)
            have y0 : wr.cell? ⟨g3, 0, none⟩ = some (.int .i64 3) := hai.box.cell 0
            have y1 : wr.cell? ⟨g3, 1, none⟩ = some (.int .i64 0) := hai.box.cell 1
            have y2 : wr.cell? ⟨g3, 2, none⟩ = some (.int .i64 0) := hai.box.cell 2
            have y3 : wr.cell? ⟨g3, 3, none⟩ = some (.bool false) := hai.box.cell 3
            have y4 : wr.cell? ⟨g3, 4, none⟩ = some (.slice none 0 0) := hai.box.cell 4
            have y5 : wr.cell? ⟨g3, 5, none⟩ = some (.slice none 0 0) := hai.box.cell 5
            have z6 : wr.cell? ⟨g, 6, none⟩ = some v := ho.box.cell 6
            have zf6 := ho.box.frozen 6; have zl6 := ho.box.lt
            clear hai HAI hokj
            rw [HSE.out] at c13 hmv
            have hmv : MV wr (OkM wr (g + 1) v.ownBlock) (andM ps t) (mcell (andM ps t) none 0 none 0 LA ca) := hmv
            generalize hna : (atms ps t).length = na at *
            have hb1 := (Below.refl wr.heap.size wr).alloc (Nat.le_refl _) (.cells #[.int .i64 3, .int .i64 0, .int .i64 0, .bool false, .slice none 0 0, .slice none 0 0, .slice LA na ca] 35)
            have HRO := Lib.hid (own_old hro hb1)
            have HBX := Lib.hid (ho.box.old hb1)
            have HRN := Lib.hid (Reads.seven_new wr [.int .i64 3, .int .i64 0, .int .i64 0, .bool false, .slice none 0 0, .slice none 0 0, .slice LA na ca] rfl 35)
            have hmv1 : MV (wr.alloc (.cells #[.int .i64 3, .int .i64 0, .int .i64 0, .bool false, .slice none 0 0, .slice none 0 0, .slice LA na ca] 35)) (OkM (wr.alloc (.cells #[.int .i64 3, .int .i64 0, .int .i64 0, .bool false, .slice none 0 0, .slice none 0 0, .slice LA na ca] 35)) (g + 1) v.ownBlock) (andM ps t) [.int .i64 3, .int .i64 0, .int .i64 0, .bool false, .slice none 0 0, .slice none 0 0, .slice LA na ca] := by
              have := hmv.oldM hb1
              have e : mcell (andM ps t) none 0 none 0 LA ca = [.int .i64 3, .int .i64 0, .int .i64 0, .bool false, .slice none 0 0, .slice none 0 0, .slice LA na ca] := by unfold mcell andM; simp only [MX.kd, MX.rl, MX.p, MX.ks, hna]; rfl
              rw [e] at this
              exact this
            have HONE := Lib.hid hmv1.one
            have hbase : g + 1 ≤ (wr.alloc (.cells #[.int .i64 3, .int .i64 0, .int .i64 0, .bool false, .slice none 0 0, .slice none 0 0, .slice LA na ca] 35)).heap.size := Nat.le_trans zl6 hb1.size
            have hne : some g ≠ v.ownBlock := fun e => by have := own_geR hro e.symm; omega
            have HPU := Lib.hid (fun (W2 : World) (v' : Value) h1 h2 h3 => ho.push (W2 := W2) (v' := v') hro hms hb1 hmv1 h1 h2 h3)
            have HKP := Lib.hid (fun (W2 : World) (v' : Value) (hg : (wr.alloc (.cells #[.int .i64 3, .int .i64 0, .int .i64 0, .bool false, .slice none 0 0, .slice none 0 0, .slice LA na ca] 35)).grownBy W2 v.ownBlock) => ((hkt.old hb1).grown hg (own_blk_ne HRO.out (hkt.old hb1) (by decide))).far (p := ⟨g, 6, none⟩) HGT.out v')
            obtain ⟨i0, hi0, hz0, hz1, hz2⟩ := info_parts Tryz.infoMat
            generalize (ts.take k).map (andM ps) = ms at *
            have h63 : ms.length + 1 ≤ maxLen := by unfold maxLen; omega
            have hby : (ms.length + 1) * 104 ≤ 140737488355328 := by omega
            clear hms hro hb1 hmv hmv1 ho hna hkt
            go_wp2_with (first | (at_builtin; refine wpList_append_any _ rfl (.tmp 75) (.tmp 77) 33 rfl (g + 1) 35 i0 _ 7 104 Tryz.underlying33 hi0 hz0 hz1 hz2 rfl (by decide) v ms.length _ rfl HRO.out (wr.heap.size + 1) (some ⟨wr.heap.size, 0, none⟩) 1 1 [.int .i64 3, .int .i64 0, .int .i64 0, .bool false, .slice none 0 0, .slice none 0 0, .slice LA na ca] rfl HRN.out HONE.out h63 hby hbase ?_; intro v' w15 hown4 hg4' hat4; obtain ⟨Lv, cv, rfl⟩ := own_slice6 hown4; have kb := HBX.out.grown hg4' hne; have y6 : w15.cell? ⟨g, 6, none⟩ = some v := kb.cell 6; have y7 := kb.frozen 6; have y8 := kb.lt))
            go_roundg (nt - (k + 1))
            case rel => exact ⟨k + 1, _, by omega, rfl, by go_num, by rw [HSN.out]; exact HPU.out _ _ hown4 hg4' hat4, HNX.out HTB.out, HKP.out _ _ hg4'⟩
            case measure => have := HG.out; omega
      · have HF := Lib.hid (HBAD.out (termB_len hln))
        have e1 : ((t.length : Int) != (np : Int)) = true := by simp; omega
        have hres := hor.res
        clear hln hor
        have d0 : wr.cell? ⟨g4, 0, none⟩ = some (.int .i64 0) := hres.cell 0
        have d1 : wr.cell? ⟨g4, 1, none⟩ = some (.int .i64 0) := hres.cell 1
        have d2 : wr.cell? ⟨g4, 2, none⟩ = some (.int .i64 0) := hres.cell 2
        have d3 : wr.cell? ⟨g4, 3, none⟩ = some (.bool false) := hres.cell 3
        have d4 : wr.cell? ⟨g4, 4, none⟩ = some (.slice none 0 0) := hres.cell 4
        have d5 : wr.cell? ⟨g4, 5, none⟩ = some (.slice none 0 0) := hres.cell 5
        have d6 : wr.cell? ⟨g4, 6, none⟩ = some (.slice none 0 0) := hres.cell 6
        have f0 := hres.frozen 0; have f1 := hres.frozen 1; have f2 := hres.frozen 2; have f3 := hres.frozen 3; have f4 := hres.frozen 4; have f5 := hres.frozen 5; have f6 := hres.frozen 6
        have z0 := hres.lt
        have HRS := Lib.hid hres; have HBE := Lib.hid hbw
        clear hres hbw
        go_wp2_with fail
        refine ret_blk2 Tryz.results12 rfl rfl (sets7 HRS.out _ _ _ _ _ _ _).1 Tryz.underlying35 rfl Tryz.sizeMat ?_
        exact HMR.out _ _ (by rw [if_neg (by rw [HF.out]; decide)]; rfl) (HBE.out.trans ((sets7 HRS.out _ _ _ _ _ _ _).2.2 _ (Nat.le_refl _)))
    · obtain rfl : nt = k := by omega
      have HOK := Lib.hid (show matB np ts = true by rw [List.take_of_length_le (by rw [HNT.out]; exact Nat.le_refl _)] at hok; exact hok)
      have HSE := Lib.hid (show (ts.take nt).map (andM ps) = ts.map (andM ps) by rw [List.take_of_length_le (by rw [HNT.out]; exact Nat.le_refl _)])
      clear hok
      rw [HSE.out] at hor
      have y0 : wr.cell? ⟨g, 0, none⟩ = some (.int .i64 4) := hor.box.cell 0
      have y1 : wr.cell? ⟨g, 1, none⟩ = some (.int .i64 0) := hor.box.cell 1
      have y2 : wr.cell? ⟨g, 2, none⟩ = some (.int .i64 0) := hor.box.cell 2
      have y3 : wr.cell? ⟨g, 3, none⟩ = some (.bool false) := hor.box.cell 3
      have y4 : wr.cell? ⟨g, 4, none⟩ = some (.slice none 0 0) := hor.box.cell 4
      have y5 : wr.cell? ⟨g, 5, none⟩ = some (.slice none 0 0) := hor.box.cell 5
      have y6 : wr.cell? ⟨g, 6, none⟩ = some v := hor.box.cell 6
      have d0 : wr.cell? ⟨g4, 0, none⟩ = some (.int .i64 0) := hor.res.cell 0
      have d1 : wr.cell? ⟨g4, 1, none⟩ = some (.int .i64 0) := hor.res.cell 1
      have d2 : wr.cell? ⟨g4, 2, none⟩ = some (.int .i64 0) := hor.res.cell 2
      have d3 : wr.cell? ⟨g4, 3, none⟩ = some (.bool false) := hor.res.cell 3
      have d4 : wr.cell? ⟨g4, 4, none⟩ = some (.slice none 0 0) := hor.res.cell 4
      have d5 : wr.cell? ⟨g4, 5, none⟩ = some (.slice none 0 0) := hor.res.cell 5
      have d6 : wr.cell? ⟨g4, 6, none⟩ = some (.slice none 0 0) := hor.res.cell 6
      have f0 := hor.res.frozen 0; have f1 := hor.res.frozen 1; have f2 := hor.res.frozen 2; have f3 := hor.res.frozen 3; have f4 := hor.res.frozen 4; have f5 := hor.res.frozen 5; have f6 := hor.res.frozen 6
      have z0 := hor.res.lt
      have zl := hor.box.lt
      obtain ⟨s1, s2, s3⟩ := sets7 hor.res (.int .i64 4) (.int .i64 0) (.int .i64 0) (.bool false) (.slice none 0 0) (.slice none 0 0) v
      obtain ⟨LV, lv, hv, hmv⟩ := hor.fin s2
      have HS1 := Lib.hid s1
      rw [HG4.out] at hmv
      have HMV := Lib.hid hmv
      have HBF := Lib.hid (hbw.trans (s3 _ (Nat.le_refl _)))
      subst hv
      have hln : (ts.map (andM ps)).length = nt := by rw [List.length_map, HNT.out]
      generalize hml : (ts.map (andM ps)).length = ml at *
      subst hln
      clear hor HOR s1 s2 s3 hmv hbw
      go_wp2_with fail
      refine ret_blk2 Tryz.results12 rfl rfl HS1.out Tryz.underlying35 rfl Tryz.sizeMat ?_
      exact HMR.out _ _ (by rw [if_pos HOK.out]; exact ⟨LV, lv, rfl, HMV.out⟩) HBF.out
end Go.Proofs.YtkkliemgidhgmaaGreatDoor
