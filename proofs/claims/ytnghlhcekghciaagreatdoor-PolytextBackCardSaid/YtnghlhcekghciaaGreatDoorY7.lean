/- Contract of polytext.read. -/
import Derived.Test.YtnghlhcekghciaaGreatDoorY6
import Derived.Test.YtnghlhcekghciaaGreatDoorXL
namespace Go.Proofs.YtnghlhcekghciaaGreatDoor
open Go.RowKit

def readGo (ls : List Bs) : Nat → Bool → Bs → List Tm → Option (List Tm)
  | 0, _, _, _ => none
  | n + 1, mi, rest, acc => match termR ls (Lib.cut rest [32]).1 with
    | none => none
    | some (z, m) => if (Lib.cut rest [32]).2.2 = false then some (acc ++ [(if mi then -z else z, m)])
      else if Lib.hasPrefix (Lib.cut rest [32]).2.1 [43, 32] then readGo ls n false ((Lib.cut rest [32]).2.1.drop 2) (acc ++ [(if mi then -z else z, m)])
      else if Lib.hasPrefix (Lib.cut rest [32]).2.1 [45, 32] then readGo ls n true ((Lib.cut rest [32]).2.1.drop 2) (acc ++ [(if mi then -z else z, m)])
      else none
def readR (ls : List Bs) (s : Bs) : Option (List Tm) := readGo ls (s.length + 1) (Lib.hasPrefix s [45]) (Lib.trimPrefix s [45]) []
/-- bounds of a term that was read -/
structure QRd (q : PT) : Prop where
  cn : Cn q
  sm : (dig q.tm.1.natAbs).length ≤ 100000
  ex : ∀ j, j < 4 → 0 ≤ gt q.m j ∧ gt q.m j ≤ 200000 * 1073741824
def ReadRes (o : Option (List Tm)) (N : Nat) (w : World) (e : Ending) (w' : World) : Prop :=
  ((o = none ∧ e = .returned (.tuple #[.slice none 0 0, .bool false])) ∨
    ∃ qs A c, o = some (qs.map PT.tm) ∧ e = .returned (.tuple #[.slice A qs.length c, .bool true]) ∧ PRow w' w.heap.size (.slice A qs.length c) qs ∧ (∀ q ∈ qs, QRd q) ∧ qs.length ≤ N + 1) ∧ Below w.heap.size w w'
theorem NatB.natK {w : World} {A : Option Addr} {ds : List Nat} (h : NatB w A ds) : NatK w A ds := by
  rcases h with h | ⟨g, zs, h1, h2, h3⟩
  · exact .inl h
  · refine .inr ⟨g, _, h1, h2, ?_⟩
    rw [List.toList_toArray]
    unfold u32s
    rw [← List.map_take, ← h3]
theorem cut_more {l : Bs} {c : UInt8} (h : (Lib.cut l [c]).2.2 = true) : (Lib.cut l [c]).2.1.length + 1 ≤ l.length := by
  unfold Lib.cut at *
  split
  · rename_i hi
    have := Lib.index_room l [c] hi
    simp only [List.length_drop, List.length_singleton] at *
    omega
  · rename_i hi
    rw [if_neg hi] at h
    cases h
theorem hasP_len {l p : Bs} (h : Lib.hasPrefix l p = true) : p.length ≤ l.length := by
  unfold Lib.hasPrefix at h
  exact (List.isPrefixOf_iff_prefix.1 h).length_le
theorem HasP_any (l p : Bs) (w : World) : Calls Tryz.prog 37 #[.string ⟨l.toArray⟩, .string ⟨p.toArray⟩] w fun e w' => e = .returned (.bool (Lib.hasPrefix l p)) ∧ w' = w := Tryz.strings_HasPrefix ⟨l.toArray⟩ ⟨p.toArray⟩ w
theorem CutP_any (l p : Bs) (w : World) : Calls Tryz.prog 33 #[.string ⟨l.toArray⟩, .string ⟨p.toArray⟩] w fun e w' => e = .returned (.tuple #[.string ⟨(Lib.trimPrefix l p).toArray⟩, .bool (Lib.hasPrefix l p)]) ∧ w' = w := Tryz.strings_CutPrefix ⟨l.toArray⟩ ⟨p.toArray⟩ w
theorem trimP_len (l p : Bs) : (Lib.trimPrefix l p).length ≤ l.length := by
  unfold Lib.trimPrefix
  split
  · rw [List.length_drop]; omega
  · exact Nat.le_refl _

set_option maxHeartbeats 4000000 in
set_option maxRecDepth 100000 in
theorem read_any (s : Bs) (A : Option Addr) (c B : Nat) (ls : List Bs) (w : World) (hs : s.length ≤ 100000) (hB : B ≤ w.heap.size) (hl : Reads w B 1 A ls.length (ls.map strV)) (h4 : ls.length ≤ 4) (hm : MaxL w) :
    Calls Tryz.prog 17 #[.string ⟨s.toArray⟩, .slice A ls.length c] w (ReadRes (readR ls s) s.length w) := by
  obtain ⟨i0, hi0, hz0, hz1, hz2⟩ := info_parts Tryz.infoTerm
  have HCP := Lib.hid (CutP_any s [45] w)
  have htl := trimP_len s [45]
  have HRO := Lib.hid (show readR ls s = readGo ls (s.length + 1) (Lib.hasPrefix s [45]) (Lib.trimPrefix s [45]) [] from rfl)
  have HL := Lib.hid (fun (W : World) (hW : Below w.heap.size w W) => hl.below (hW.mono hB))
  have HM := Lib.hid hm
  generalize readR ls s = o at *
  generalize Lib.trimPrefix s [45] = r0 at *
  generalize Lib.hasPrefix s [45] = mi0 at *
  clear hl hm
  generalize hnl : ls.length = nl at *
  have HLN := Lib.hid hnl
  clear hnl
  generalize hsl : s.length = sl at *
  go_enter Tryz.func17, Tryz.ntmps17
  go_wp2_with fail
  refine HCP.out.mono ?_
  rintro e w' ⟨rfl, hw'⟩
  rw [hw']
  clear hw'
  go_wp2_with fail
  go_loopg [6, 7, 8, 9, 10, 11, 12, 13, 45, 48] r0.length (fun gn lv rv mv _ _ _ _ _ _ _ wr => ∃ (n : Nat) (rest : Bs) (mi : Bool) (qs : List PT), gn = rest.length ∧ rv = .string ⟨rest.toArray⟩ ∧ mv = .bool mi ∧ o = readGo ls n mi rest (qs.map PT.tm) ∧ rest.length < n ∧ qs.length + rest.length ≤ sl ∧ (∀ q ∈ qs, QRd q) ∧ PRow wr w.heap.size lv qs ∧ Below w.heap.size w wr)
  case atStart => exact ⟨sl + 1, r0, mi0, [], rfl, rfl, rfl, HRO.out, by omega, by simpa using htl, by simp, PRow.nil _ _, Below.refl _ _⟩
  case round =>
    clear HRO htl
    obtain ⟨n, rest, mi, qs, hgn, rfl, rfl, ho, hn, hlen, hq, hrow, hbl⟩ := hrel
    have HG := Lib.hid hgn; have HQ := Lib.hid hq
    clear hgn hq
    obtain ⟨n, rfl⟩ : ∃ k, n = k + 1 := ⟨n - 1, by omega⟩
    rw [readGo] at ho
    have hmw := HM.out.old hbl
    have HCU := Lib.hid (Cut_any rest 32 wr (by omega) hmw)
    have hcl := cut_len rest [32]
    have hcm := @cut_more rest 32
    generalize (Lib.cut rest [32]).1 = tx at *
    generalize (Lib.cut rest [32]).2.1 = af at *
    generalize (Lib.cut rest [32]).2.2 = mo at *
    have HRT := Lib.hid (fun (W : World) (hW : Below w.heap.size w W) (hm : MaxL W) => readTerm_any tx A c B ls W (by omega) (Nat.le_trans hB hW.size) (by rw [HLN.out]; exact HL.out W hW) (by rw [HLN.out]; exact h4) hm)
    rw [HLN.out] at HRT
    have HO := Lib.hid ho; have HCM := Lib.hid hcm
    clear ho hcm
    generalize termR ls tx = tr at *
    obtain ⟨Aq, cq, rfl⟩ := own_slice6 hrow.row
    go_wp2_with fail
    refine HCU.out.mono ?_
    rintro e w1 ⟨rfl, hdr⟩
    have hbd := hdr.below wr.heap.size
    have hbl1 := hbl.trans (hbd.mono hbl.size)
    have hrow1 := hrow.old hbd
    have hm1 := hmw.old hbd
    clear hdr hbd hrow hbl hmw
    go_wp2_with fail
    refine (HRT.out _ hbl1 hm1).mono ?_
    rintro e w2 ⟨hr, hb2⟩
    have hbl2 := hbl1.trans (hb2.mono hbl1.size)
    have hrow2 := hrow1.old hb2
    have hm2 := hm1.old hb2
    clear hb2 hrow1 hbl1 hm1
    rcases hr with ⟨ht, rfl⟩ | ⟨z, m, ht, A2, c2, rfl, h1, h2, h3, h5⟩
    · have HN := Lib.hid (show o = none by rw [HO.out, ht])
      have hbl3 := hbl2.alloc hbl2.size (.cells #[.bool false, .slice none 0 0, .int .i64 0, .int .i64 0, .int .i64 0, .int .i64 0] 47)
      clear HO ht hrow2 hm2 hbl2
      go_wp2_with fail
      go_ret2
      exact ⟨.inl ⟨HN.out, rfl⟩, hbl3⟩
    · have HO2 := Lib.hid (show o = if mo = false then some (qs.map PT.tm ++ [(if mi then -z else z, m)])
          else if Lib.hasPrefix af [43, 32] then readGo ls n false (af.drop 2) (qs.map PT.tm ++ [(if mi then -z else z, m)])
          else if Lib.hasPrefix af [45, 32] then readGo ls n true (af.drop 2) (qs.map PT.tm ++ [(if mi then -z else z, m)])
          else none by rw [HO.out, ht])
      have H1 := Lib.hid h1; have H3 := Lib.hid h3; have H5 := Lib.hid h5
      have hba := (Below.refl w2.heap.size w2).alloc (Nat.le_refl _) (.cells (cellsT (decide (z < 0)) A2 (dig z.natAbs).length c2 m) 47)
      have hkt := Blk.new w2 47 (cellsT (decide (z < 0)) A2 (dig z.natAbs).length c2 m)
      have hnb := h2.old hba
      have hrow3 := hrow2.old hba
      have hbl3 := hbl2.trans (hba.mono hbl2.size)
      have hg2 := hbl2.size
      clear HO ht hm2 h1 h3 h5 h2
      have HBL2 := Lib.hid hbl2
      clear hbl2
      unfold cellsT at hkt hnb hrow3 hbl3 ⊢
      cases mi with
      | false =>
        have hcc := H1.out
        rw [show (if false = true then -z else z) = z from rfl] at HO2
        have HYA := Lib.hid (rfl : z.natAbs = z.natAbs)
        clear hrow2 hba
        have HCN := Lib.hid (show QRd (mkP (z) A2 c2 m) from ⟨mkP_cn _ _ _ _, by rw [mkP_tm]; have h1 := H3.out; rw [← HYA.out] at h1; exact h1, H5.out⟩)
        have HTM := Lib.hid (show (qs ++ [mkP (z) A2 c2 m]).map PT.tm = qs.map PT.tm ++ [(z, m)] by rw [List.map_append, List.map_singleton, mkP_tm])
        have HDL := Lib.hid (show (dig (z).natAbs).length ≤ c2 from hcc)
        have d0 : (w2.alloc (.cells #[.bool (decide (z < 0)), .slice A2 (dig z.natAbs).length c2, .int .i64 m.1, .int .i64 m.2.1, .int .i64 m.2.2.1, .int .i64 m.2.2.2] 47)).cell? ⟨w2.heap.size, 0, none⟩ = some (.bool (decide (z < 0))) := hkt.cell 0
        have d1 : (w2.alloc (.cells #[.bool (decide (z < 0)), .slice A2 (dig z.natAbs).length c2, .int .i64 m.1, .int .i64 m.2.1, .int .i64 m.2.2.1, .int .i64 m.2.2.2] 47)).cell? ⟨w2.heap.size, 1, none⟩ = some (.slice A2 (dig (z).natAbs).length c2) := hkt.cell 1
        have d2 : (w2.alloc (.cells #[.bool (decide (z < 0)), .slice A2 (dig z.natAbs).length c2, .int .i64 m.1, .int .i64 m.2.1, .int .i64 m.2.2.1, .int .i64 m.2.2.2] 47)).cell? ⟨w2.heap.size, 2, none⟩ = some (.int .i64 m.1) := hkt.cell 2
        have d3 : (w2.alloc (.cells #[.bool (decide (z < 0)), .slice A2 (dig z.natAbs).length c2, .int .i64 m.1, .int .i64 m.2.1, .int .i64 m.2.2.1, .int .i64 m.2.2.2] 47)).cell? ⟨w2.heap.size, 3, none⟩ = some (.int .i64 m.2.1) := hkt.cell 3
        have d4 : (w2.alloc (.cells #[.bool (decide (z < 0)), .slice A2 (dig z.natAbs).length c2, .int .i64 m.1, .int .i64 m.2.1, .int .i64 m.2.2.1, .int .i64 m.2.2.2] 47)).cell? ⟨w2.heap.size, 4, none⟩ = some (.int .i64 m.2.2.1) := hkt.cell 4
        have d5 : (w2.alloc (.cells #[.bool (decide (z < 0)), .slice A2 (dig z.natAbs).length c2, .int .i64 m.1, .int .i64 m.2.1, .int .i64 m.2.2.1, .int .i64 m.2.2.2] 47)).cell? ⟨w2.heap.size, 5, none⟩ = some (.int .i64 m.2.2.2) := hkt.cell 5
        have z0 := hkt.lt
        have hba2 := (Below.refl (w2.alloc (.cells #[.bool (decide (z < 0)), .slice A2 (dig z.natAbs).length c2, .int .i64 m.1, .int .i64 m.2.1, .int .i64 m.2.2.1, .int .i64 m.2.2.2] 47)).heap.size (w2.alloc (.cells #[.bool (decide (z < 0)), .slice A2 (dig z.natAbs).length c2, .int .i64 m.1, .int .i64 m.2.1, .int .i64 m.2.2.1, .int .i64 m.2.2.2] 47))).alloc (Nat.le_refl _) (.cells #[.bool (decide (z < 0)), .slice A2 (dig (z).natAbs).length c2, .int .i64 m.1, .int .i64 m.2.1, .int .i64 m.2.2.1, .int .i64 m.2.2.2] 47)
        have hrow4 := hrow3.old hba2
        have hrd := Reads.six_new (w2.alloc (.cells #[.bool (decide (z < 0)), .slice A2 (dig z.natAbs).length c2, .int .i64 m.1, .int .i64 m.2.1, .int .i64 m.2.2.1, .int .i64 m.2.2.2] 47)) (mkP (z) A2 c2 m).cells rfl 47
        rw [show (w2.alloc (.cells #[.bool (decide (z < 0)), .slice A2 (dig z.natAbs).length c2, .int .i64 m.1, .int .i64 m.2.1, .int .i64 m.2.2.1, .int .i64 m.2.2.2] 47)).heap.size = w2.heap.size + 1 by simp] at hrd
        have hone := cells_one [mkP (z) A2 c2 m]
        have h63 : qs.length + 1 ≤ maxLen := by unfold maxLen; omega
        have hby : (qs.length + 1) * 64 ≤ 140737488355328 := by omega
        have hbl4 := hbl3.trans (hba2.mono hbl3.size)
        have hbX := hbl4.size
        have hnk := (hnb.old hba2).natK
        simp only [PT.cells, mkP] at hrd
        go_wp2_with (at_builtin; refine wpList_append_any _ rfl (.tmp 38) (.tmp 40) 26 rfl w.heap.size 47 i0 _ 6 64 Tryz.underlying26 hi0 hz0 hz1 hz2 rfl (by decide) (.slice Aq qs.length cq) qs.length (qs.flatMap PT.cells) rfl hrow4.row (w2.heap.size + 1 + 1) (some ⟨w2.heap.size + 1, 0, none⟩) 1 1 _ rfl hrd (by simpa [PT.cells, mkP] using hone) h63 hby hbX ?_; intro v5 w5 hown5 hg5 hat5; refine Hid.out ?_)
        refine Lib.hid ?_
        have hrow5 := hrow4.snoc (p := mkP (z) A2 c2 m) ⟨hnk, dig_dig _, HDL.out⟩ (by simpa [PT.cells, mkP] using hown5) hg5
        have hbl5 := hbl4.grown hg5 hbX (fun k hk => (hrow4.row.lt k hk).1)
        have HR5 := Lib.hid hrow5; have HB5 := Lib.hid hbl5
        have HQ5 := Lib.hid (show ∀ q ∈ qs ++ [mkP (z) A2 c2 m], QRd q from fun q hq => by
          rcases List.mem_append.1 hq with hq | hq
          · exact HQ.out q hq
          · rw [List.mem_singleton] at hq; subst hq; exact HCN.out)
        clear hown5 hg5 hat5 hrow3 hrow4 hrow5 hbl3 hbl4 hbl5 hba2 hrd hone hbX hnk hnb hkt d0 d1 d2 d3 d4 d5 z0
        obtain ⟨A5, c5, rfl⟩ := own_slice6 HR5.out.row
        rw [List.length_append, List.length_singleton] at HR5
        cases mo with
        | false =>
          have HN := Lib.hid (show o = some ((qs ++ [mkP (z) A2 c2 m]).map PT.tm) by rw [HO2.out, if_pos rfl, HTM.out])
          clear HO2
          go_wp2_with fail
          go_ret2
          exact ⟨.inr ⟨qs ++ [mkP (z) A2 c2 m], A5, c5, HN.out, by rw [List.length_append, List.length_singleton]; rfl, by rw [List.length_append, List.length_singleton]; exact HR5.out, HQ5.out, by rw [List.length_append, List.length_singleton]; omega⟩, HB5.out⟩
        | true =>
          rw [if_neg (by decide)] at HO2
          have haf := HCM.out rfl
          have HPL := Lib.hid (fun (W : World) => HasP_any af [43, 32] W)
          have HMI := Lib.hid (fun (W : World) => HasP_any af [45, 32] W)
          have HLP := Lib.hid (@hasP_len af [43, 32]); have HLM := Lib.hid (@hasP_len af [45, 32])
          generalize Lib.hasPrefix af [43, 32] = pl at *
          generalize Lib.hasPrefix af [45, 32] = mn at *
          cases pl with
          | true =>
            have hl2 := HLP.out rfl
            have HN := Lib.hid (show o = readGo ls n false (af.drop 2) ((qs ++ [mkP (z) A2 c2 m]).map PT.tm) by rw [HO2.out, if_pos rfl, HTM.out])
            have hsd : ∀ W, (Instr.slice 9 (.string ⟨af.toArray⟩) (some (.int .i64 2)) none none).run Tryz.prog W = .ok (.string ⟨(af.drop 2).toArray⟩) W := fun W => Tryz.str_drop af 2 hl2 W
            have HDR := Lib.hid (show (af.drop 2).length = af.length - 2 from List.length_drop)
            have hl3 : (2 : Int) ≤ (af.length : Int) := by simp at hl2; omega
            generalize af.drop 2 = rest2 at *
            clear HO2 hl2
            go_wp2_with fail
            refine (HPL.out _).mono ?_
            rintro e w' ⟨rfl, hw'⟩
            rw [hw']
            clear hw'
            go_wp2_with fail
            go_roundg rest2.length
            case rel => exact ⟨n, rest2, false, _, rfl, rfl, rfl, HN.out, by have := HDR.out; omega, by rw [List.length_append, List.length_singleton]; have := HDR.out; omega, HQ5.out, HR5.out, HB5.out⟩
            case measure => have := HG.out; have := HDR.out; omega
          | false =>
            rw [if_neg (by decide)] at HO2
            cases mn with
            | true =>
              have hl2 := HLM.out rfl
              have HN := Lib.hid (show o = readGo ls n true (af.drop 2) ((qs ++ [mkP (z) A2 c2 m]).map PT.tm) by rw [HO2.out, if_pos rfl, HTM.out])
              have hsd : ∀ W, (Instr.slice 9 (.string ⟨af.toArray⟩) (some (.int .i64 2)) none none).run Tryz.prog W = .ok (.string ⟨(af.drop 2).toArray⟩) W := fun W => Tryz.str_drop af 2 hl2 W
              have HDR := Lib.hid (show (af.drop 2).length = af.length - 2 from List.length_drop)
              have hl3 : (2 : Int) ≤ (af.length : Int) := by simp at hl2; omega
              generalize af.drop 2 = rest2 at *
              clear HO2 hl2
              go_wp2_with fail
              refine (HPL.out _).mono ?_
              rintro e w' ⟨rfl, hw'⟩
              rw [hw']
              clear hw'
              go_wp2_with fail
              refine (HMI.out _).mono ?_
              rintro e w' ⟨rfl, hw'⟩
              rw [hw']
              clear hw'
              go_wp2_with fail
              go_roundg rest2.length
              case rel => exact ⟨n, rest2, true, _, rfl, rfl, rfl, HN.out, by have := HDR.out; omega, by rw [List.length_append, List.length_singleton]; have := HDR.out; omega, HQ5.out, HR5.out, HB5.out⟩
              case measure => have := HG.out; have := HDR.out; omega
            | false =>
              have HN := Lib.hid (show o = none by rw [HO2.out, if_neg (by decide)])
              clear HO2
              go_wp2_with fail
              refine (HPL.out _).mono ?_
              rintro e w' ⟨rfl, hw'⟩
              rw [hw']
              clear hw'
              go_wp2_with fail
              refine (HMI.out _).mono ?_
              rintro e w' ⟨rfl, hw'⟩
              rw [hw']
              clear hw'
              go_wp2_with fail
              go_ret2
              exact ⟨.inl ⟨HN.out, rfl⟩, HB5.out⟩
      | true =>
        obtain ⟨y, hy⟩ : ∃ y : Int, y = -z := ⟨_, rfl⟩
        rw [show (if true = true then -z else z) = y from hy.symm] at HO2
        have HYA := Lib.hid (show y.natAbs = z.natAbs by rw [hy]; exact Int.natAbs_neg z)
        have HNG := Lib.hid (INeg_any (decide (z < 0)) A2 c2 _ (dig z.natAbs) _ (Nat.le_refl _) ⟨hnb.reads, dig_dig _, H1.out⟩ (by have := H3.out; omega))
        rw [ival_own, ← hy] at HNG
        have d0 : (w2.alloc (.cells #[.bool (decide (z < 0)), .slice A2 (dig z.natAbs).length c2, .int .i64 m.1, .int .i64 m.2.1, .int .i64 m.2.2.1, .int .i64 m.2.2.2] 47)).cell? ⟨w2.heap.size, 0, none⟩ = some (.bool (decide (z < 0))) := hkt.cell 0
        have d1 : (w2.alloc (.cells #[.bool (decide (z < 0)), .slice A2 (dig z.natAbs).length c2, .int .i64 m.1, .int .i64 m.2.1, .int .i64 m.2.2.1, .int .i64 m.2.2.2] 47)).cell? ⟨w2.heap.size, 1, none⟩ = some (.slice A2 (dig z.natAbs).length c2) := hkt.cell 1
        have z0 := hkt.lt
        have HKT := Lib.hid hkt
        have HBA := Lib.hid hba; have HROW2 := Lib.hid hrow2
        unfold IntRes at HNG
        clear hnb hrow3 hbl3 hy hkt hba hrow2
        go_wp2_with fail
        refine HNG.out.mono ?_
        rintro e w4 ⟨A4, c4, rfl, hcc, k2, k3⟩
        have hk4 := HKT.out.old k3
        have hkt := (hk4.set_ 0 (.bool (decide (y < 0)))).set_ 1 (.slice A4 (dig y.natAbs).length c4)
        have hnb := k2.store2 hk4 (by decide) (.bool (decide (y < 0))) (.slice A4 (dig y.natAbs).length c4)
        have hB5 := ((HBA.out.trans (k3.mono HBA.out.size)).setCell (p := ⟨w2.heap.size, 0, none⟩) (Nat.le_refl _) (.bool (decide (y < 0)))).setCell (p := ⟨w2.heap.size, 1, none⟩) (Nat.le_refl _) (.slice A4 (dig y.natAbs).length c4)
        have hrow3 := HROW2.out.old hB5
        have hbl3 := HBL2.out.trans (hB5.mono HBL2.out.size)
        have e0 : w4.cell? ⟨w2.heap.size, 0, none⟩ = some (.bool (decide (z < 0))) := hk4.cell 0
        have e1 : w4.cell? ⟨w2.heap.size, 1, none⟩ = some (.slice A2 (dig z.natAbs).length c2) := hk4.cell 1
        have f0 := hk4.frozen 0
        have f1 := hk4.frozen 1
        have z4 := hk4.lt
        clear k2 k3 d0 d1 z0 hB5
        have HCN := Lib.hid (show QRd (mkP (y) A4 c4 m) from ⟨mkP_cn _ _ _ _, by rw [mkP_tm]; have h1 := H3.out; rw [← HYA.out] at h1; exact h1, H5.out⟩)
        have HTM := Lib.hid (show (qs ++ [mkP (y) A4 c4 m]).map PT.tm = qs.map PT.tm ++ [(y, m)] by rw [List.map_append, List.map_singleton, mkP_tm])
        have HDL := Lib.hid (show (dig (y).natAbs).length ≤ c4 from hcc)
        have d0 : ((w4.setCell ⟨w2.heap.size, 0, none⟩ (.bool (decide (y < 0)))).setCell ⟨w2.heap.size, 1, none⟩ (.slice A4 (dig y.natAbs).length c4)).cell? ⟨w2.heap.size, 0, none⟩ = some (.bool (decide (y < 0))) := hkt.cell 0
        have d1 : ((w4.setCell ⟨w2.heap.size, 0, none⟩ (.bool (decide (y < 0)))).setCell ⟨w2.heap.size, 1, none⟩ (.slice A4 (dig y.natAbs).length c4)).cell? ⟨w2.heap.size, 1, none⟩ = some (.slice A4 (dig (y).natAbs).length c4) := hkt.cell 1
        have d2 : ((w4.setCell ⟨w2.heap.size, 0, none⟩ (.bool (decide (y < 0)))).setCell ⟨w2.heap.size, 1, none⟩ (.slice A4 (dig y.natAbs).length c4)).cell? ⟨w2.heap.size, 2, none⟩ = some (.int .i64 m.1) := hkt.cell 2
        have d3 : ((w4.setCell ⟨w2.heap.size, 0, none⟩ (.bool (decide (y < 0)))).setCell ⟨w2.heap.size, 1, none⟩ (.slice A4 (dig y.natAbs).length c4)).cell? ⟨w2.heap.size, 3, none⟩ = some (.int .i64 m.2.1) := hkt.cell 3
        have d4 : ((w4.setCell ⟨w2.heap.size, 0, none⟩ (.bool (decide (y < 0)))).setCell ⟨w2.heap.size, 1, none⟩ (.slice A4 (dig y.natAbs).length c4)).cell? ⟨w2.heap.size, 4, none⟩ = some (.int .i64 m.2.2.1) := hkt.cell 4
        have d5 : ((w4.setCell ⟨w2.heap.size, 0, none⟩ (.bool (decide (y < 0)))).setCell ⟨w2.heap.size, 1, none⟩ (.slice A4 (dig y.natAbs).length c4)).cell? ⟨w2.heap.size, 5, none⟩ = some (.int .i64 m.2.2.2) := hkt.cell 5
        have z0 := hkt.lt
        have hba2 := (Below.refl ((w4.setCell ⟨w2.heap.size, 0, none⟩ (.bool (decide (y < 0)))).setCell ⟨w2.heap.size, 1, none⟩ (.slice A4 (dig y.natAbs).length c4)).heap.size ((w4.setCell ⟨w2.heap.size, 0, none⟩ (.bool (decide (y < 0)))).setCell ⟨w2.heap.size, 1, none⟩ (.slice A4 (dig y.natAbs).length c4))).alloc (Nat.le_refl _) (.cells #[.bool (decide (y < 0)), .slice A4 (dig (y).natAbs).length c4, .int .i64 m.1, .int .i64 m.2.1, .int .i64 m.2.2.1, .int .i64 m.2.2.2] 47)
        have hrow4 := hrow3.old hba2
        have hrd := Reads.six_new ((w4.setCell ⟨w2.heap.size, 0, none⟩ (.bool (decide (y < 0)))).setCell ⟨w2.heap.size, 1, none⟩ (.slice A4 (dig y.natAbs).length c4)) (mkP (y) A4 c4 m).cells rfl 47
        rw [show ((w4.setCell ⟨w2.heap.size, 0, none⟩ (.bool (decide (y < 0)))).setCell ⟨w2.heap.size, 1, none⟩ (.slice A4 (dig y.natAbs).length c4)).heap.size = w4.heap.size by simp] at hrd
        have hone := cells_one [mkP (y) A4 c4 m]
        have h63 : qs.length + 1 ≤ maxLen := by unfold maxLen; omega
        have hby : (qs.length + 1) * 64 ≤ 140737488355328 := by omega
        have hbl4 := hbl3.trans (hba2.mono hbl3.size)
        have hbX := hbl4.size
        have hnk := (hnb.old hba2).natK
        simp only [PT.cells, mkP] at hrd
        go_wp2_with (at_builtin; refine wpList_append_any _ rfl (.tmp 38) (.tmp 40) 26 rfl w.heap.size 47 i0 _ 6 64 Tryz.underlying26 hi0 hz0 hz1 hz2 rfl (by decide) (.slice Aq qs.length cq) qs.length (qs.flatMap PT.cells) rfl hrow4.row (w4.heap.size + 1) (some ⟨w4.heap.size, 0, none⟩) 1 1 _ rfl hrd (by simpa [PT.cells, mkP] using hone) h63 hby hbX ?_; intro v5 w5 hown5 hg5 hat5; refine Hid.out ?_)
        refine Lib.hid ?_
        have hrow5 := hrow4.snoc (p := mkP (y) A4 c4 m) ⟨hnk, dig_dig _, HDL.out⟩ (by simpa [PT.cells, mkP] using hown5) hg5
        have hbl5 := hbl4.grown hg5 hbX (fun k hk => (hrow4.row.lt k hk).1)
        have HR5 := Lib.hid hrow5; have HB5 := Lib.hid hbl5
        have HQ5 := Lib.hid (show ∀ q ∈ qs ++ [mkP (y) A4 c4 m], QRd q from fun q hq => by
          rcases List.mem_append.1 hq with hq | hq
          · exact HQ.out q hq
          · rw [List.mem_singleton] at hq; subst hq; exact HCN.out)
        clear hown5 hg5 hat5 hrow3 hrow4 hrow5 hbl3 hbl4 hbl5 hba2 hrd hone hbX hnk hnb hkt d0 d1 d2 d3 d4 d5 z0
        obtain ⟨A5, c5, rfl⟩ := own_slice6 HR5.out.row
        rw [List.length_append, List.length_singleton] at HR5
        cases mo with
        | false =>
          have HN := Lib.hid (show o = some ((qs ++ [mkP (y) A4 c4 m]).map PT.tm) by rw [HO2.out, if_pos rfl, HTM.out])
          clear HO2
          go_wp2_with fail
          go_ret2
          exact ⟨.inr ⟨qs ++ [mkP (y) A4 c4 m], A5, c5, HN.out, by rw [List.length_append, List.length_singleton]; rfl, by rw [List.length_append, List.length_singleton]; exact HR5.out, HQ5.out, by rw [List.length_append, List.length_singleton]; omega⟩, HB5.out⟩
        | true =>
          rw [if_neg (by decide)] at HO2
          have haf := HCM.out rfl
          have HPL := Lib.hid (fun (W : World) => HasP_any af [43, 32] W)
          have HMI := Lib.hid (fun (W : World) => HasP_any af [45, 32] W)
          have HLP := Lib.hid (@hasP_len af [43, 32]); have HLM := Lib.hid (@hasP_len af [45, 32])
          generalize Lib.hasPrefix af [43, 32] = pl at *
          generalize Lib.hasPrefix af [45, 32] = mn at *
          cases pl with
          | true =>
            have hl2 := HLP.out rfl
            have HN := Lib.hid (show o = readGo ls n false (af.drop 2) ((qs ++ [mkP (y) A4 c4 m]).map PT.tm) by rw [HO2.out, if_pos rfl, HTM.out])
            have hsd : ∀ W, (Instr.slice 9 (.string ⟨af.toArray⟩) (some (.int .i64 2)) none none).run Tryz.prog W = .ok (.string ⟨(af.drop 2).toArray⟩) W := fun W => Tryz.str_drop af 2 hl2 W
            have HDR := Lib.hid (show (af.drop 2).length = af.length - 2 from List.length_drop)
            have hl3 : (2 : Int) ≤ (af.length : Int) := by simp at hl2; omega
            generalize af.drop 2 = rest2 at *
            clear HO2 hl2
            go_wp2_with fail
            refine (HPL.out _).mono ?_
            rintro e w' ⟨rfl, hw'⟩
            rw [hw']
            clear hw'
            go_wp2_with fail
            go_roundg rest2.length
            case rel => exact ⟨n, rest2, false, _, rfl, rfl, rfl, HN.out, by have := HDR.out; omega, by rw [List.length_append, List.length_singleton]; have := HDR.out; omega, HQ5.out, HR5.out, HB5.out⟩
            case measure => have := HG.out; have := HDR.out; omega
          | false =>
            rw [if_neg (by decide)] at HO2
            cases mn with
            | true =>
              have hl2 := HLM.out rfl
              have HN := Lib.hid (show o = readGo ls n true (af.drop 2) ((qs ++ [mkP (y) A4 c4 m]).map PT.tm) by rw [HO2.out, if_pos rfl, HTM.out])
              have hsd : ∀ W, (Instr.slice 9 (.string ⟨af.toArray⟩) (some (.int .i64 2)) none none).run Tryz.prog W = .ok (.string ⟨(af.drop 2).toArray⟩) W := fun W => Tryz.str_drop af 2 hl2 W
              have HDR := Lib.hid (show (af.drop 2).length = af.length - 2 from List.length_drop)
              have hl3 : (2 : Int) ≤ (af.length : Int) := by simp at hl2; omega
              generalize af.drop 2 = rest2 at *
              clear HO2 hl2
              go_wp2_with fail
              refine (HPL.out _).mono ?_
              rintro e w' ⟨rfl, hw'⟩
              rw [hw']
              clear hw'
              go_wp2_with fail
              refine (HMI.out _).mono ?_
              rintro e w' ⟨rfl, hw'⟩
              rw [hw']
              clear hw'
              go_wp2_with fail
              go_roundg rest2.length
              case rel => exact ⟨n, rest2, true, _, rfl, rfl, rfl, HN.out, by have := HDR.out; omega, by rw [List.length_append, List.length_singleton]; have := HDR.out; omega, HQ5.out, HR5.out, HB5.out⟩
              case measure => have := HG.out; have := HDR.out; omega
            | false =>
              have HN := Lib.hid (show o = none by rw [HO2.out, if_neg (by decide)])
              clear HO2
              go_wp2_with fail
              refine (HPL.out _).mono ?_
              rintro e w' ⟨rfl, hw'⟩
              rw [hw']
              clear hw'
              go_wp2_with fail
              refine (HMI.out _).mono ?_
              rintro e w' ⟨rfl, hw'⟩
              rw [hw']
              clear hw'
              go_wp2_with fail
              go_ret2
              exact ⟨.inl ⟨HN.out, rfl⟩, HB5.out⟩
end Go.Proofs.YtnghlhcekghciaaGreatDoor
