/- The helpers of the laws on texts: Few, names, awake. -/
import Derived.Test.YtnghlhcekghciaaGreatDoorXC
namespace Go.Proofs.YtnghlhcekghciaaGreatDoor
open Go.RowKit

def Few21 (t : Nat) (ps : List PT) : Prop := ps.length ≤ t ∧ ∀ p ∈ ps, p.ds.length ≤ 20 ∧ ∀ j, j < 4 → gt p.m j ≤ 1073741824
def FewRes21 (t : Nat) (ps : List PT) (w : World) (e : Ending) (w' : World) : Prop := ∃ b : Bool, e = .returned (.bool b) ∧ (b = true → Few21 t ps) ∧ w = w'
set_option maxHeartbeats 4000000 in
set_option maxRecDepth 100000 in
theorem Few21_any (A : Option Addr) (c B t : Nat) (ps : List PT) (w : World) (h : PolyIn w B A ps) (ht : t ≤ 1000) : Calls Tryz.prog 11 #[.slice A ps.length c, .int .i64 (t : Int)] w (FewRes21 t ps w) := by
  have H := Lib.hid h
  clear h
  generalize hpn : ps.length = pn at *
  have HP := Lib.hid hpn
  clear hpn
  by_cases hlen : pn ≤ t
  · go_enter Tryz.func11, Tryz.ntmps11
    have hl1 : ¬ (t : Int) < (pn : Int) := by omega
    go_wp2_with fail
    go_loopg [5, 6, 13, 24] pn (fun gn _ _ ix _ wr => ∃ (k : Nat), k ≤ pn ∧ gn = pn - k ∧ ix = .int .i64 k ∧ (∀ p ∈ ps.take k, p.ds.length ≤ 20 ∧ ∀ j, j < 4 → gt p.m j ≤ 1073741824) ∧ w = wr)
    case atStart => exact ⟨0, by omega, rfl, rfl, fun p hp => by simp at hp, rfl⟩
    case round =>
      obtain ⟨k, hk, hgk, rfl, hf, rfl⟩ := hrel
      have HG := Lib.hid hgk; have HF := Lib.hid hf
      clear hgk hf
      by_cases hlt : k < pn
      · obtain ⟨p, hp⟩ : ∃ p, ps[k]? = some p := ⟨_, List.getElem?_eq_getElem (by have := HP.out; omega)⟩
        obtain ⟨b, o, rfl, hbb, d0, d1, d2, d3, d4, d5⟩ := H.out.at_ hp
        have i1 : (k : Int) < (pn : Int) := by omega
        have i0 : (0 : Int) ≤ (k : Int) := by omega
        have dj : ∀ j, j < 4 → w.cell? ⟨b, o + k * 6 + 2 + j, none⟩ = some (.int .i64 (gt p.m j)) := fun j hj => by
          rcases (by omega : j = 0 ∨ j = 1 ∨ j = 2 ∨ j = 3) with rfl | rfl | rfl | rfl
          · exact d2
          · exact d3
          · exact d4
          · exact d5
        have DJ := Lib.hid dj
        have HTK := Lib.hid (show ∀ q ∈ ps.take (k + 1), q ∈ ps.take k ∨ q = p by
          intro q hq
          rw [List.take_succ_eq_append_getElem (by have := HP.out; omega)] at hq
          rcases List.mem_append.1 hq with x | x
          · exact .inl x
          · simp at x
            exact .inr (x.trans (List.getElem?_eq_some_iff.1 hp).2))
        clear d0 d2 d3 d4 d5 dj hp
        by_cases hdl : p.ds.length ≤ 20
        · have hd1 : ¬ (20 : Int) < (p.ds.length : Int) := by omega
          go_wp2_with fail
          go_loopg [6, 24] 4 (fun gn _ jx wr => ∃ (j : Nat), j ≤ 4 ∧ gn = 4 - j ∧ jx = .int .i64 j ∧ (∀ i, i < j → gt p.m i ≤ 1073741824) ∧ w = wr)
          case atStart => exact ⟨0, by omega, rfl, rfl, fun i hi => by omega, rfl⟩
          case round =>
            obtain ⟨j, hj, hgj, rfl, hfj, rfl⟩ := hrel
            have HGJ := Lib.hid hgj; have HFJ := Lib.hid hfj
            clear hgj hfj
            by_cases hlt2 : j < 4
            · have cj := DJ.out j hlt2
              have j0 : (0 : Int) ≤ (j : Int) := by omega
              have j1 : (j : Int) < 4 := by omega
              have HJN := Lib.hid (fun (h2 : gt p.m j ≤ 1073741824) => show ∀ i, i < j + 1 → gt p.m i ≤ 1073741824 from fun i hi => by
                by_cases e : i = j
                · subst e; exact h2
                · exact HFJ.out i (by omega))
              generalize gt p.m j = x at *
              by_cases hx1 : 1073741824 < x
              · go_wp2_with fail
                go_ret
                exact ⟨false, rfl, fun h => (by cases h), rfl⟩
              · have HJ2 := Lib.hid (HJN.out (by omega))
                go_wp2_with fail
                go_roundg (4 - (j + 1))
                case rel => exact ⟨j + 1, by omega, rfl, by go_num, HJ2.out, rfl⟩
                case measure => have := HGJ.out; omega
            · obtain rfl : j = 4 := by omega
              have HNX := Lib.hid (show ∀ q ∈ ps.take (k + 1), q.ds.length ≤ 20 ∧ ∀ j, j < 4 → gt q.m j ≤ 1073741824 from fun q hq => (HTK.out q hq).elim (fun x => HF.out q x) (fun x => by rw [x]; exact ⟨hdl, HFJ.out⟩))
              go_wp2_with fail
              go_roundg (pn - (k + 1))
              case rel => exact ⟨k + 1, by omega, rfl, by go_num, HNX.out, rfl⟩
              case measure => have := HG.out; omega
        · have hd1 : (20 : Int) < (p.ds.length : Int) := by omega
          go_wp2_with fail
          go_ret
          exact ⟨false, rfl, fun h => (by cases h), rfl⟩
      · obtain rfl : k = pn := by omega
        go_wp2_with fail
        go_ret
        refine ⟨true, rfl, fun _ => ⟨by rw [HP.out]; exact hlen, fun p hp => HF.out p ?_⟩, rfl⟩
        rw [← HP.out, List.take_length]
        exact hp
  · go_enter Tryz.func11, Tryz.ntmps11
    have hl1 : (t : Int) < (pn : Int) := by omega
    go_wp2_with fail
    go_ret
    exact ⟨false, rfl, fun h => (by cases h), rfl⟩

/-- what the law asks of a list of names -/
def Nms (ls : List Bs) : Prop := ls.length ≤ 8 ∧ ∀ l ∈ ls, l.length ≤ 40
def NmsRes (ls : List Bs) (w : World) (e : Ending) (w' : World) : Prop := ∃ b : Bool, e = .returned (.bool b) ∧ (b = true → Nms ls) ∧ w = w'
set_option maxHeartbeats 1000000 in
set_option maxRecDepth 100000 in
theorem names_any (A : Option Addr) (c B : Nat) (ls : List Bs) (w : World) (h : Reads w B 1 A ls.length (ls.map strV)) (hm : ls.length ≤ maxLen) (hl : ∀ l ∈ ls, l.length ≤ maxLen) : Calls Tryz.prog 7 #[.slice A ls.length c] w (NmsRes ls w) := by
  unfold maxLen at hm hl
  have H := Lib.hid h; have HL := Lib.hid hl
  clear h hl
  go_enter Tryz.func7, Tryz.ntmps7
  go_wp2_with fail
  go_loopg [3, 6] ls.length (fun gn _ i wr => ∃ k : Nat, k ≤ ls.length ∧ k ≤ 8 ∧ gn = ls.length - k ∧ i = .int .i64 k ∧ (∀ l ∈ ls.take k, l.length ≤ 40) ∧ w = wr)
  case atStart => exact ⟨0, by omega, by omega, rfl, rfl, fun l hl => by simp at hl, rfl⟩
  case round =>
    obtain ⟨k, hk, hk8, hgk, rfl, hf, rfl⟩ := hrel
    have HG := Lib.hid hgk; have HF := Lib.hid hf
    clear hgk hf
    by_cases hlt : k < ls.length
    · have j1 : (k : Int) < (ls.length : Int) := by omega
      have j0 : (0 : Int) ≤ (k : Int) := by omega
      by_cases h8 : k = 8
      · have j2 : (8 : Int) ≤ (k : Int) := by omega
        clear h8
        go_wp2_with fail
        go_ret
        exact ⟨false, rfl, fun h => (by cases h), rfl⟩
      · have j2 : ¬ (8 : Int) ≤ (k : Int) := by omega
        obtain ⟨b1, o1, rfl, q1, c1⟩ := strs_at H.out hlt
        have hdm : ls.getD k [] ∈ ls := by simp [List.getElem?_eq_getElem hlt]
        have hbl := HL.out _ hdm
        have HTK := Lib.hid (show ∀ q ∈ ls.take (k + 1), q ∈ ls.take k ∨ q = ls.getD k [] by
          intro q hq
          rw [List.take_succ_eq_append_getElem hlt] at hq
          rcases List.mem_append.1 hq with x | x
          · exact .inl x
          · right
            simp at x
            simp [x, List.getElem?_eq_getElem hlt])
        generalize ls.getD k [] = l at *
        clear hdm
        by_cases h40 : (40 : Int) < (l.length : Int)
        · go_wp2_with fail
          go_ret
          exact ⟨false, rfl, fun h => (by cases h), rfl⟩
        · have HNX := Lib.hid (show ∀ q ∈ ls.take (k + 1), q.length ≤ 40 from fun q hq => (HTK.out q hq).elim (fun x => HF.out q x) (fun x => by rw [x]; omega))
          go_wp2_with fail
          go_roundg (ls.length - (k + 1))
          case rel => exact ⟨k + 1, by omega, by omega, rfl, by go_num, HNX.out, rfl⟩
          case measure => have := HG.out; omega
    · obtain rfl : k = ls.length := by omega
      go_wp2_with fail
      go_ret
      refine ⟨true, rfl, fun _ => ⟨hk8, fun l hl => HF.out l ?_⟩, rfl⟩
      rw [List.take_length]
      exact hl

/-! ### awake: the text of -2 x -/
def awT : Tm := (-2, (1, 0, 0, 0))
theorem aw_can : Canon [awT] := ⟨by simp [awT], by simp [awT, vld], by simp⟩
theorem aw_text : fmtS [[120]] [awT] = [45, 50, 42, 120] := by
  have d2 : Lib.decDigits 2 = [50] := by rw [decD_small (by omega)]; rfl
  simp [fmtS, fmtGo, awT, signS, termS, wrTo, gt, d2, nmAt, powS]
theorem aw_fmt : fmtV [[120]] [awT] = .tuple #[.string ⟨#[45, 50, 42, 120]⟩, .int .i64 0] := by
  unfold fmtV
  rw [if_neg (by decide), aw_text]
theorem aw_names : namesB [[120]] = true := by decide
def awP (a : Nat) : PT := ⟨true, [2], some ⟨a, 0, none⟩, 1, (1, 0, 0, 0)⟩
theorem aw_tm (a : Nat) : (awP a).tm = awT := by
  simp [awP, PT.tm, awT, ival, val]
theorem aw_pin {w : World} {a b : Nat} (ha : Blk w a 39 #[.int .u32 2]) (hb : Blk w b 47 (awP a).cells.toArray) : PIn w w.heap.size (some ⟨b, 0, none⟩) [awP a] 1 1 2 where
  pin := {
    rd := ⟨rfl, fun _ => ⟨b, 0, rfl, hb.lt, fun j u hu => by
      rw [Nat.zero_add, hb.cell]
      simpa using hu⟩⟩
    nt := fun p hp => by
      rw [List.mem_singleton] at hp
      subst hp
      refine ⟨⟨rfl, fun _ => ⟨a, 0, rfl, ha.lt, fun j u hu => ?_⟩⟩, fun d hd => ?_, Nat.le_refl _⟩
      · rw [Nat.zero_add, ha.cell]
        simpa [awP, u32s] using hu
      · simp [awP] at hd
        omega }
  dl p hp := by rw [List.mem_singleton] at hp; subst hp; simp [awP]
  wf p hp := by rw [List.mem_singleton] at hp; subst hp; simp [awP, WfM, WfI]
  mb p hp _ := by rw [List.mem_singleton] at hp; subst hp; simp [awP, MB]
  len := Nat.le_refl _
  nm := by rw [List.map_singleton, aw_tm]; decide
theorem NIn.new1 {w : World} {b : Nat} {l : Bs} (hl : l.length ≤ 1000000) (hb : Blk w b 9 #[strV l]) : NIn w w.heap.size (some ⟨b, 0, none⟩) 1 [l] where
  rd := ⟨rfl, fun _ => ⟨b, 0, rfl, hb.lt, fun j u hu => by rw [Nat.zero_add, hb.cell]; simpa using hu⟩⟩
  cap := Nat.le_refl _
  len := by simp
  el x hx := by rw [List.mem_singleton] at hx; subst hx; exact hl

set_option maxHeartbeats 1000000 in
set_option maxRecDepth 100000 in
theorem awake_any (w : World) (htab : TabT w) : Calls Tryz.prog 6 #[] w fun e w' => e = .returned (.bool true) ∧ Below w.heap.size w w' := by
  have HT := Lib.hid htab; clear htab
  go_enter Tryz.func6, Tryz.ntmps6
  go_wp2_with fail
  have ha := ((Blk.new w 39 #[.int .u32 2]).alloc (.cells (awP w.heap.size).cells.toArray 47)).alloc (.cells #[strV [120]] 9)
  have hb := (Blk.new (w.alloc (.cells #[.int .u32 2] 39)) 47 (awP w.heap.size).cells.toArray).alloc (.cells #[strV [120]] 9)
  have hs := Blk.new ((w.alloc (.cells #[.int .u32 2] 39)).alloc (.cells (awP w.heap.size).cells.toArray 47)) 9 #[strV [120]]
  have hbl := (((Below.refl w.heap.size w).alloc (Nat.le_refl _) (.cells #[.int .u32 2] 39)).alloc (by simp) (.cells (awP w.heap.size).cells.toArray 47)).alloc (by simp; omega) (.cells #[strV [120]] 9)
  simp only [World.size_alloc] at hb hs
  change Calls _ _ _ (((w.alloc (.cells #[.int .u32 2] 39)).alloc (.cells (awP w.heap.size).cells.toArray 47)).alloc (.cells #[strV [120]] 9)) _
  generalize ((w.alloc (.cells #[.int .u32 2] 39)).alloc (.cells (awP w.heap.size).cells.toArray 47)).alloc (.cells #[strV [120]] 9) = W at *
  have HF := Lib.hid (Format_any (some ⟨w.heap.size + 1, 0, none⟩) (some ⟨w.heap.size + 1 + 1, 0, none⟩) 1 1 W.heap.size 1 1 2 [awP w.heap.size] [[120]] W (Nat.le_refl _) (aw_pin ha hb) (by omega) (Nat.lt_of_le_of_lt (by decide : 2 ≤ pw 1) (pw_lt (show 1 < 600 by decide))) (by omega) (NIn.new1 (by decide) hs) (HT.out.on hbl))
  have HBL := Lib.hid hbl
  clear ha hb hs hbl
  refine HF.out.mono ?_
  rintro e w2 ⟨hr, hb2⟩
  have hr2 : e = .returned (.tuple #[.string ⟨#[45, 50, 42, 120]⟩, .int .i64 0]) := by
    rcases hr with ⟨h1, _⟩ | ⟨_, P, hP, hc, _, he⟩
    · rw [aw_names] at h1; cases h1
    · rw [List.map_singleton, aw_tm] at hc
      rw [he, hP.unique aw_can hc, aw_fmt]
  subst hr2
  have HB2 := Lib.hid (HBL.out.trans (hb2.mono HBL.out.size))
  clear hr hb2 HF
  have ht : (⟨#[45, 50, 42, 120]⟩ : ByteArray).toList = [45, 50, 42, 120] := by rw [ByteArray.toList_eq]
  go_wp2_with fail
  go_ret
  exact ⟨rfl, HB2.out⟩
end Go.Proofs.YtnghlhcekghciaaGreatDoor
