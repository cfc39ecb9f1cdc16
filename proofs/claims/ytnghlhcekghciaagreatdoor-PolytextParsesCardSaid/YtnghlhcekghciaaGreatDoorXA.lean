/- Contract of polytext.writeTerm. -/
import Derived.Lib.AppendIntMem
import Derived.MapKept
import Derived.Test.YtnghlhcekghciaaGreatDoorX6
import Derived.Test.YtnghlhcekghciaaGreatDoorX8
import Derived.Test.YtnghlhcekghciaaGreatDoorH5
namespace Go.Proofs.YtnghlhcekghciaaGreatDoor
open Go.RowKit

/-- the builder at block b holds the cells pre and the bytes t -/
def BL (B b : Nat) (pre : List Value) (t : Bs) (w : World) : Prop := Lib.IsBuilderF 58 5 B b (pre ++ Lib.byteCells t) w
theorem BL.old {B b : Nat} {pre : List Value} {t : Bs} {w w' : World} (h : BL B b pre t w) (hb : Below w.heap.size w w') : BL B b pre t w' := by
  have key : ∀ p, Lib.BuilderAtF 58 5 B b p (pre ++ Lib.byteCells t) w → Lib.BuilderAtF 58 5 B b p (pre ++ Lib.byteCells t) w' := by
    rintro p ⟨h1, v, h2, h3, h4⟩
    refine ⟨h1, v, (hb.block b (Array.getElem?_eq_some_iff.1 h2).1).trans h2, ⟨h3.1, ?_⟩, h4⟩
    rcases h3.2 with k | ⟨g, cap, cur, fz, k1, k2, k3, k4⟩
    · exact .inl k
    · exact .inr ⟨g, cap, cur, fz, k1, k2, (hb.block g (Array.getElem?_eq_some_iff.1 k3).1).trans k3, k4⟩
  exact h.imp (key _) (key _)
theorem BL.alloc {B b : Nat} {pre : List Value} {t : Bs} {w : World} (h : BL B b pre t w) (o : Obj) : BL B b pre t (w.alloc o) := h.old ((Below.refl _ _).alloc (Nat.le_refl _) o)
theorem BL.lt {B b : Nat} {pre : List Value} {t : Bs} {w : World} (h : BL B b pre t w) : b < w.heap.size := by
  rcases h with h | h
  · exact h.lt
  · exact h.lt
/-- what writes to the builder leave alone -/
def Wr (B b : Nat) (w w' : World) : Prop := Below B w w' ∧ Lib.OthersKept 5 (some b) w w'
theorem Wr.refl (B b : Nat) (w : World) : Wr B b w w := ⟨Below.refl _ _, Lib.OthersKept.refl _ _ _⟩
theorem Wr.trans {B b : Nat} {u v w : World} (h : Wr B b u v) (k : Wr B b v w) : Wr B b u w := ⟨h.1.trans k.1, h.2.trans k.2⟩
theorem Wr.of_below {B b : Nat} {v w : World} (hB : B ≤ v.heap.size) (k : Below v.heap.size v w) : Wr B b v w := ⟨k.mono hB, fun i _ h _ _ => (k.block i (Array.getElem?_eq_some_iff.1 h).1).trans h⟩
theorem Wr.old {B b : Nat} {u v w : World} (h : Wr B b u v) (hB : B ≤ v.heap.size) (k : Below v.heap.size v w) : Wr B b u w := h.trans (Wr.of_below hB k)
theorem Wr.alloc {B b : Nat} {u v : World} (h : Wr B b u v) (hB : B ≤ v.heap.size) (o : Obj) : Wr B b u (v.alloc o) := h.old hB ((Below.refl _ _).alloc (Nat.le_refl _) o)
theorem Wr.blk {B b g : Nat} {w w' : World} {t : TypeId} {cs : Array Value} (h : Wr B b w w') (hb : Blk w g t cs) (hg : g ≠ b) (ht : t ≠ 5) : Blk w' g t cs :=
  h.2 g _ hb (fun e => hg (Option.some.inj e)) (fun c fz e => ht (by injection e))
def TabB (B : Nat) (w : World) : Prop := Lib.TabBelow Tryz.prog B w "internal/strconv.uint64pow10" .u64 Lib.pow10Tab

theorem WS_any (B b : Nat) (pre : List Value) (t s : Bs) (w : World) (h : BL B b pre t w) (hl : pre.length + t.length + s.length ≤ 1000000000) (hB : B ≤ w.heap.size) :
    Calls Tryz.prog 25 #[.pointer (some ⟨b, 0, none⟩), .string ⟨s.toArray⟩] w fun e w' => e = .returned (.tuple #[.int .i64 ((⟨s.toArray⟩ : ByteArray).size : Int), .nilIface]) ∧ BL B b pre (t ++ s) w' ∧ Wr B b w w' := by
  have hsz : (⟨s.toArray⟩ : ByteArray).size = s.length := by simp [ByteArray.size]
  refine (WriteString_any B b _ ⟨s.toArray⟩ w h (by rw [hsz, List.length_append, Lib.byteCells_length]; omega) hB).mono ?_
  rintro e w' ⟨rfl, h1, h2, h3⟩
  refine ⟨rfl, ?_, h2, h3⟩
  unfold BL
  rw [Lib.byteCells_append, ← List.append_assoc]
  exact .inr h1
theorem IAbs_at (ng : Bool) (A : Option Addr) (c B : Nat) (ds : List Nat) (w : World) (hB : B ≤ w.heap.size) (h : NatIn w B A c ds) (hm : ds.length ≤ 1000000) :
    Calls Tryz.prog 47 #[.agg #[.bool ng, .slice A ds.length c]] w fun e w' => ∃ A' c', e = .returned (.agg #[.bool false, .slice A' (dig (val ds)).length c']) ∧ NatIn w' w'.heap.size A' c' (dig (val ds)) ∧ Below w.heap.size w w' := by
  refine (IAbs_any ng A c B ds w hB h hm).mono ?_
  rintro e w' ⟨A', c', rfl, h1, h2, h3⟩
  rw [Int.natAbs_natCast] at *
  exact ⟨A', c', by simp, ⟨h2.reads, dig_dig _, h1⟩, h3⟩
theorem wr0_some {ns : List Bs} {v : Nat} {m : Mo} (h : ¬ (v = 1 ∧ m ≠ (0, 0, 0, 0))) : wrTo ns v m 0 = (true, Lib.decDigits v) := by rw [wrTo, if_neg h]
theorem wr0_none {ns : List Bs} {v : Nat} {m : Mo} (h : v = 1 ∧ m ≠ (0, 0, 0, 0)) : wrTo ns v m 0 = (false, []) := by rw [wrTo, if_pos h]
theorem one_text {v : Nat} (h : v = 1) : (⟨(Lib.decDigits v).toArray⟩ : ByteArray).toList = [49] := by
  rw [h, decD_small (by omega), ByteArray.toList_eq]
  rfl
theorem not_one {v : Nat} (h : v ≠ 1) : ¬ (⟨(Lib.decDigits v).toArray⟩ : ByteArray).toList = [49] := by
  rw [ByteArray.toList_eq]
  exact fun e => h (decD_one.1 (by simpa using e))
theorem Itoa_nn (B b : Nat) (x : Int) (h0 : 0 ≤ x) (h1 : x ≤ 4398046511104) (w : World) (hB : B ≤ w.heap.size) (ht : TabB B w) : Calls Tryz.prog 48 #[.int .i64 x] w fun e w' => e = .returned (.string ⟨(Lib.decDigits x.toNat).toArray⟩) ∧ Below w.heap.size w w' ∧ Wr B b w w' := by
  refine (Tryz.strconv_Itoa x (by omega) (by omega) w ht.here).mono ?_
  rintro e w' ⟨rfl, k, os, h⟩
  have hl : Laid w w' := ⟨k, os, h⟩
  exact ⟨by unfold Lib.itoa; rw [if_neg (by omega)], hl.below, Wr.of_below hB hl.below⟩

set_option maxHeartbeats 4000000 in
set_option maxRecDepth 100000 in
theorem writeTerm_any (B b : Nat) (pre : List Value) (p : PT) (A : Option Addr) (c : Nat) (ls : List Bs) (w : World) (h : BL B b pre [] w) (hB : B ≤ w.heap.size) (hp : NatIn w B p.A p.c p.ds) (hpl : p.ds.length ≤ 1000)
    (hl : Reads w B 1 A ls.length (ls.map strV)) (hns : ∀ n ∈ ls, n.length ≤ 16) (hpre : pre.length ≤ 900000000) (hw : WfM p.m) (hvl : ∀ j, j < 4 → 0 ≤ gt p.m j ∧ gt p.m j ≤ 4398046511104) (hlv : ∀ j, j < 4 → gt p.m j ≠ 0 → j < ls.length) (htab : TabB B w) :
    Calls Tryz.prog 26 #[.pointer (some ⟨b, 0, none⟩), .agg p.cells.toArray, .slice A ls.length c] w fun e w' => e = .returned (.tuple #[]) ∧ BL B b pre (termS ls (val p.ds) p.m) w' ∧ Wr B b w w' := by
  have hk0 := Blk.new w 47 p.cells.toArray
  have hb0 := (Below.refl _ w).alloc (Nat.le_refl _) (.cells p.cells.toArray 47)
  have HIA := Lib.hid (fun (W : World) (hW : Below w.heap.size w W) => IAbs_at p.ng p.A p.c B p.ds W (Nat.le_trans hB hW.size) (hp.below (hW.mono hB)) (by omega))
  have HBL := Lib.hid h
  have hbl := h.lt
  have HDL := Lib.hid (show (Lib.decDigits (val p.ds)).length ≤ 10001 by
    have h1 := pow_dec p.ds.length
    rw [Nat.pow_mul, show (2 : Nat) ^ 32 = 4294967296 by decide] at h1
    have h2 := Nat.lt_of_lt_of_le (val_lt hp.dg) h1
    have h3 : 10 ^ (10 * p.ds.length) ≤ 10 ^ (10 * p.ds.length + 1) := Nat.pow_le_pow_right (by decide) (by omega)
    have := decD_len (Nat.lt_of_lt_of_le h2 h3)
    omega)
  have HVD := Lib.hid (val_dig (val p.ds))
  have HLV := Lib.hid hlv; have HVL := Lib.hid hvl; have HNS := Lib.hid hns; have HT := Lib.hid htab; have HR := Lib.hid hl
  have HDD := Lib.hid (show (dig (val p.ds)).length ≤ 1000 by have := dig_len_le hp.dg; omega)
  have HEQ := Lib.hid (fun W => Tryz.eq_mono p.m (0, 0, 0, 0) hw (by simp [WfM, WfI]) W)
  have HK0 := Lib.hid hk0; have HB0 := Lib.hid hb0
  have H1 := Lib.hid (@one_text (val p.ds)); have H2 := Lib.hid (@not_one (val p.ds))
  have HW1 := Lib.hid (@wr0_some ls (val p.ds) p.m); have HW2 := Lib.hid (@wr0_none ls (val p.ds) p.m)
  clear h hp hl hlv hvl hns htab hk0 hb0 hw
  unfold termS
  generalize val p.ds = v at *
  generalize hes : dig v = es at *
  have HES := Lib.hid hes
  clear hes
  simp only [PT.cells] at *
  unfold moV at HEQ
  generalize hmm : p.m = m at *
  generalize hm0 : m.1 = m0 at *
  generalize hm1 : m.2.1 = m1 at *
  generalize hm2 : m.2.2.1 = m2 at *
  generalize hm3 : m.2.2.2 = m3 at *
  generalize p.ng = ng at *
  generalize p.A = Ap at *
  generalize p.ds.length = np at *
  generalize p.c = cp at *
  clear hmm
  have HM := Lib.hid (show gt m 0 = m0 ∧ gt m 1 = m1 ∧ gt m 2 = m2 ∧ gt m 3 = m3 from ⟨hm0, hm1, hm2, hm3⟩)
  clear hm0 hm1 hm2 hm3
  by_cases hv1 : v = 1
  · by_cases hz : m = (0, 0, 0, 0)
    · have hs := H1.out hv1
      have HW := Lib.hid (HW1.out (fun hh => hh.2 hz))
      rw [show decide (m = (0, 0, 0, 0)) = true by simpa using hz] at HEQ
      have heq := HEQ.out
      clear HW1 HW2 H1 H2 HEQ hv1 hz
      go_enter Tryz.func26, Tryz.ntmps26
      go_wp2_with fail
      refine (HIA.out _ HB0.out).mono ?_
      rintro e w1 ⟨A1, c1, rfl, hn1, hb1⟩
      have HDF := Lib.hid (DFormat_any A1 c1 w1.heap.size es w1 (Nat.le_refl _) hn1 HDD.out)
      rw [HVD.out] at HDF
      have hk1 := HK0.out.old hb1
      have hb1' := HB0.out.trans (hb1.mono HB0.out.size)
      clear hn1 hb1
      go_wp2_with fail
      refine HDF.out.mono ?_
      rintro e w2 ⟨rfl, hb2⟩
      have hk2 := hk1.old hb2
      have hb2' := hb1'.trans (hb2.mono hb1'.size)
      have hbd2 := HBL.out.old hb2'
      have hz2 := hb2'.size
      have hkb := hk2.lt
      clear hb1' hb2 hk1
      have d0 : w2.cell? ⟨w.heap.size, 2, none⟩ = some (.int .i64 m0) := hk2.cell 2
      have d1 : w2.cell? ⟨w.heap.size, 3, none⟩ = some (.int .i64 m1) := hk2.cell 3
      have d2 : w2.cell? ⟨w.heap.size, 4, none⟩ = some (.int .i64 m2) := hk2.cell 4
      have d3 : w2.cell? ⟨w.heap.size, 5, none⟩ = some (.int .i64 m3) := hk2.cell 5
      have HWS := Lib.hid (WS_any B b pre [] (Lib.decDigits v) w2 hbd2 (by have := HDL.out; simp; omega) (Nat.le_trans hB hz2))
      rw [List.nil_append] at HWS
      generalize (⟨(Lib.decDigits v).toArray⟩ : ByteArray) = sv at *
      go_wp2_with fail
      refine HWS.out.mono ?_
      rintro e w3 ⟨rfl, hbd3, hwr⟩
      have hk3 := hwr.blk hk2 (by omega) (by decide)
      have hw3 : Wr B b w w3 := (Wr.of_below hB hb2').trans hwr
      clear d0 d1 d2 d3 hwr hbd2 hk2 hz2 hkb hb2'
      have d0 : w3.cell? ⟨w.heap.size, 2, none⟩ = some (.int .i64 m0) := hk3.cell 2
      have d1 : w3.cell? ⟨w.heap.size, 3, none⟩ = some (.int .i64 m1) := hk3.cell 3
      have d2 : w3.cell? ⟨w.heap.size, 4, none⟩ = some (.int .i64 m2) := hk3.cell 4
      have d3 : w3.cell? ⟨w.heap.size, 5, none⟩ = some (.int .i64 m3) := hk3.cell 5
      go_wp2_with fail
      go_loopg [7, 8, 9, 28] 4 (fun gn wv _ _ i wr => ∃ (k : Nat) (f : Bool) (t : Bs), k ≤ 4 ∧ gn = 4 - k ∧ i = .int .i64 k ∧ wrTo ls v m k = (f, t) ∧ wv = .bool f ∧ BL B b pre t wr ∧ Wr B b w wr)
      case atStart => exact ⟨0, true, Lib.decDigits v, by omega, rfl, rfl, HW.out, rfl, hbd3, hw3⟩
      case round =>
        clear hbd3 hw3 hk3 d0 d1 d2 d3
        obtain ⟨k, f, t, hk, hgk, rfl, hwt, rfl, hbd, hwr⟩ := hrel
        have HG := Lib.hid hgk; have HWT := Lib.hid hwt
        clear hgk hwt
        have hz := Nat.le_trans hB hwr.1.size
        by_cases hlt : k < 4
        · have hix := fun (W : World) => Tryz.index_mono m k hlt W
          unfold moV at hix
          rw [show m.1 = m0 from HM.out.1, show m.2.1 = m1 from HM.out.2.1, show m.2.2.1 = m2 from HM.out.2.2.1, show m.2.2.2 = m3 from HM.out.2.2.2] at hix
          have j1 : (k : Int) < 4 := by omega
          have j0 : (0 : Int) ≤ (k : Int) := by omega
          have HX := Lib.hid (HVL.out k hlt)
          have HKL := Lib.hid (HLV.out k hlt)
          have HSK := Lib.hid (@wrTo_skip ls v m k)
          have HTK := Lib.hid (@wrTo_take ls v m k)
          have HLN := Lib.hid (wrTo_len (ns := ls) HNS.out HDL.out (fun j hj => (HVL.out j hj).2) k (by omega))
          generalize gt m k = x at *
          by_cases hx : x = 0
          · have hxb : (x == 0) = true := by simpa using hx
            have HN := Lib.hid ((HSK.out hx).trans HWT.out)
            clear hx
            go_wp2_with fail
            go_roundg (3 - k)
            case rel => exact ⟨k + 1, f, t, by omega, by omega, by go_num, HN.out, rfl, hbd, hwr⟩
            case measure => have := HG.out; omega
          · have hxb : (x == 0) = false := by simpa using hx
            obtain ⟨b1, o1, rfl, q1, c1⟩ := strs_at HR.out (k := k) (HKL.out hx)
            have hkl := HKL.out hx
            have j2 : (k : Int) < (ls.length : Int) := by omega
            have hnm : (ls.getD k []).length ≤ 16 := HNS.out _ (by simp [List.getElem?_eq_getElem hkl])
            have HN := Lib.hid (HTK.out hx)
            unfold nmAt at HN
            rw [HWT.out] at HN HLN
            generalize ls.getD k [] = nm at *
            have hlt' : t.length ≤ 20000 := by have := HLN.out; simp only at this; omega
            have hx1 := HX.out
            have HX1 := Lib.hid hx1
            have HPS := Lib.hid (powS_len hx1.2)
            cases f
            · have hwr0 := hwr
              have hbd0 := hbd
              have hz0 := hz
              clear hwr hbd
              have c2 : wr.cell? ⟨b1, o1 + k, none⟩ = some (.string ⟨nm.toArray⟩) := (hwr0.1.cell (p := ⟨b1, o1 + k, none⟩) q1).trans c1
              have HWN := Lib.hid (WS_any B b pre (t) nm wr hbd0 (by omega) hz0)
              clear c1
              go_wp2_with fail
              refine HWN.out.mono ?_
              rintro e w5 ⟨rfl, hbd5, hwr5⟩
              have hwr5' := hwr0.trans hwr5
              have hz5 := Nat.le_trans hz0 hwr5.1.size
              clear hwr5 c2
              by_cases hx2 : 1 < x
              · have HP := Lib.hid (show powS x = [94] ++ Lib.decDigits x.toNat by unfold powS; rw [if_pos hx2]; rfl)
                have HWC := Lib.hid (WS_any B b pre (t ++ nm) [94] w5 hbd5 (by simp; omega) hz5)
                go_wp2_with fail
                refine HWC.out.mono ?_
                rintro e w6 ⟨rfl, hbd6, hwr6⟩
                have hwr6' := hwr5'.trans hwr6
                have hz6 := Nat.le_trans hz5 hwr6.1.size
                clear hwr6 hbd5 hwr5'
                have HIT := Lib.hid (Itoa_nn B b x hx1.1 hx1.2 w6 hz6 (HT.out.on hwr6'.1))
                go_wp2_with fail
                refine HIT.out.mono ?_
                rintro e w7 ⟨rfl, hb7, hwr7⟩
                have hbd7 := hbd6.old hb7
                have hwr7' := hwr6'.trans hwr7
                have hz7 := Nat.le_trans hz6 hwr7.1.size
                clear hwr7 hb7 hbd6 hwr6'
                have HWD := Lib.hid (WS_any B b pre (t ++ nm ++ [94]) (Lib.decDigits x.toNat) w7 hbd7 (by have := HPS.out; rw [HP.out] at this; simp at this ⊢; omega) hz7)
                generalize hdx : Lib.decDigits x.toNat = dx at *
                have HDX := Lib.hid hdx
                clear hdx
                go_wp2_with fail
                refine HWD.out.mono ?_
                rintro e w8 ⟨rfl, hbd8, hwr8⟩
                have hwr8' := hwr7'.trans hwr8
                clear hwr8 hbd7 hwr7'
                go_wp2_with fail
                go_roundg (3 - k)
                case rel =>
                  refine ⟨k + 1, true, _, by omega, by omega, by go_num, HN.out, rfl, ?_, hwr8'⟩
                  rw [HP.out]
                  simpa using hbd8
                case measure => have := HG.out; omega
              · have HP := Lib.hid (show powS x = [] by unfold powS; rw [if_neg hx2])
                go_wp2_with fail
                go_roundg (3 - k)
                case rel =>
                  refine ⟨k + 1, true, _, by omega, by omega, by go_num, HN.out, rfl, ?_, hwr5'⟩
                  rw [HP.out]
                  simpa using hbd5
                case measure => have := HG.out; omega
            · have HWT' := Lib.hid (WS_any B b pre t [42] wr hbd (by simp; omega) hz)
              have hz' := hz
              go_wp2_with fail
              refine HWT'.out.mono ?_
              rintro e w4 ⟨rfl, hbd0, hwr4⟩
              have hwr0 := hwr.trans hwr4
              have hz0 := Nat.le_trans hz' hwr4.1.size
              clear hwr hbd hwr4
              have c2 : w4.cell? ⟨b1, o1 + k, none⟩ = some (.string ⟨nm.toArray⟩) := (hwr0.1.cell (p := ⟨b1, o1 + k, none⟩) q1).trans c1
              have HWN := Lib.hid (WS_any B b pre (t ++ [42]) nm w4 hbd0 (by simp; omega) hz0)
              clear c1
              go_wp2_with fail
              refine HWN.out.mono ?_
              rintro e w5 ⟨rfl, hbd5, hwr5⟩
              have hwr5' := hwr0.trans hwr5
              have hz5 := Nat.le_trans hz0 hwr5.1.size
              clear hwr5 c2
              by_cases hx2 : 1 < x
              · have HP := Lib.hid (show powS x = [94] ++ Lib.decDigits x.toNat by unfold powS; rw [if_pos hx2]; rfl)
                have HWC := Lib.hid (WS_any B b pre (t ++ [42] ++ nm) [94] w5 hbd5 (by simp; omega) hz5)
                go_wp2_with fail
                refine HWC.out.mono ?_
                rintro e w6 ⟨rfl, hbd6, hwr6⟩
                have hwr6' := hwr5'.trans hwr6
                have hz6 := Nat.le_trans hz5 hwr6.1.size
                clear hwr6 hbd5 hwr5'
                have HIT := Lib.hid (Itoa_nn B b x hx1.1 hx1.2 w6 hz6 (HT.out.on hwr6'.1))
                go_wp2_with fail
                refine HIT.out.mono ?_
                rintro e w7 ⟨rfl, hb7, hwr7⟩
                have hbd7 := hbd6.old hb7
                have hwr7' := hwr6'.trans hwr7
                have hz7 := Nat.le_trans hz6 hwr7.1.size
                clear hwr7 hb7 hbd6 hwr6'
                have HWD := Lib.hid (WS_any B b pre (t ++ [42] ++ nm ++ [94]) (Lib.decDigits x.toNat) w7 hbd7 (by have := HPS.out; rw [HP.out] at this; simp at this ⊢; omega) hz7)
                generalize hdx : Lib.decDigits x.toNat = dx at *
                have HDX := Lib.hid hdx
                clear hdx
                go_wp2_with fail
                refine HWD.out.mono ?_
                rintro e w8 ⟨rfl, hbd8, hwr8⟩
                have hwr8' := hwr7'.trans hwr8
                clear hwr8 hbd7 hwr7'
                go_wp2_with fail
                go_roundg (3 - k)
                case rel =>
                  refine ⟨k + 1, true, _, by omega, by omega, by go_num, HN.out, rfl, ?_, hwr8'⟩
                  rw [HP.out]
                  simpa using hbd8
                case measure => have := HG.out; omega
              · have HP := Lib.hid (show powS x = [] by unfold powS; rw [if_neg hx2])
                go_wp2_with fail
                go_roundg (3 - k)
                case rel =>
                  refine ⟨k + 1, true, _, by omega, by omega, by go_num, HN.out, rfl, ?_, hwr5'⟩
                  rw [HP.out]
                  simpa using hbd5
                case measure => have := HG.out; omega
        · obtain rfl : k = 4 := by omega
          go_wp2_with fail
          go_end0
          exact ⟨rfl, by rw [HWT.out]; exact hbd, hwr⟩
    · have hs := H1.out hv1
      have HW := Lib.hid (HW2.out ⟨hv1, hz⟩)
      rw [show decide (m = (0, 0, 0, 0)) = false by simpa using hz] at HEQ
      have heq := HEQ.out
      clear HW1 HW2 H1 H2 HEQ hv1 hz
      go_enter Tryz.func26, Tryz.ntmps26
      go_wp2_with fail
      refine (HIA.out _ HB0.out).mono ?_
      rintro e w1 ⟨A1, c1, rfl, hn1, hb1⟩
      have HDF := Lib.hid (DFormat_any A1 c1 w1.heap.size es w1 (Nat.le_refl _) hn1 HDD.out)
      rw [HVD.out] at HDF
      have hk1 := HK0.out.old hb1
      have hb1' := HB0.out.trans (hb1.mono HB0.out.size)
      clear hn1 hb1
      go_wp2_with fail
      refine HDF.out.mono ?_
      rintro e w2 ⟨rfl, hb2⟩
      have hk2 := hk1.old hb2
      have hb2' := hb1'.trans (hb2.mono hb1'.size)
      have hbd2 := HBL.out.old hb2'
      have hz2 := hb2'.size
      have hkb := hk2.lt
      clear hb1' hb2 hk1
      have d0 : w2.cell? ⟨w.heap.size, 2, none⟩ = some (.int .i64 m0) := hk2.cell 2
      have d1 : w2.cell? ⟨w.heap.size, 3, none⟩ = some (.int .i64 m1) := hk2.cell 3
      have d2 : w2.cell? ⟨w.heap.size, 4, none⟩ = some (.int .i64 m2) := hk2.cell 4
      have d3 : w2.cell? ⟨w.heap.size, 5, none⟩ = some (.int .i64 m3) := hk2.cell 5
      generalize (⟨(Lib.decDigits v).toArray⟩ : ByteArray) = sv at *
      have hk3 := hk2
      have hw3 : Wr B b w w2 := Wr.of_below hB hb2'
      have hbd3 := hbd2
      obtain ⟨w3, rfl⟩ : ∃ w3, w3 = w2 := ⟨_, rfl⟩
      clear hbd2 hk2 hz2 hkb hb2'
      clear d0 d1 d2 d3
      have d0 : w3.cell? ⟨w.heap.size, 2, none⟩ = some (.int .i64 m0) := hk3.cell 2
      have d1 : w3.cell? ⟨w.heap.size, 3, none⟩ = some (.int .i64 m1) := hk3.cell 3
      have d2 : w3.cell? ⟨w.heap.size, 4, none⟩ = some (.int .i64 m2) := hk3.cell 4
      have d3 : w3.cell? ⟨w.heap.size, 5, none⟩ = some (.int .i64 m3) := hk3.cell 5
      go_wp2_with fail
      go_loopg [7, 8, 9, 28] 4 (fun gn wv _ _ i wr => ∃ (k : Nat) (f : Bool) (t : Bs), k ≤ 4 ∧ gn = 4 - k ∧ i = .int .i64 k ∧ wrTo ls v m k = (f, t) ∧ wv = .bool f ∧ BL B b pre t wr ∧ Wr B b w wr)
      case atStart => exact ⟨0, false, [], by omega, rfl, rfl, HW.out, rfl, hbd3, hw3⟩
      case round =>
        clear hbd3 hw3 hk3 d0 d1 d2 d3
        obtain ⟨k, f, t, hk, hgk, rfl, hwt, rfl, hbd, hwr⟩ := hrel
        have HG := Lib.hid hgk; have HWT := Lib.hid hwt
        clear hgk hwt
        have hz := Nat.le_trans hB hwr.1.size
        by_cases hlt : k < 4
        · have hix := fun (W : World) => Tryz.index_mono m k hlt W
          unfold moV at hix
          rw [show m.1 = m0 from HM.out.1, show m.2.1 = m1 from HM.out.2.1, show m.2.2.1 = m2 from HM.out.2.2.1, show m.2.2.2 = m3 from HM.out.2.2.2] at hix
          have j1 : (k : Int) < 4 := by omega
          have j0 : (0 : Int) ≤ (k : Int) := by omega
          have HX := Lib.hid (HVL.out k hlt)
          have HKL := Lib.hid (HLV.out k hlt)
          have HSK := Lib.hid (@wrTo_skip ls v m k)
          have HTK := Lib.hid (@wrTo_take ls v m k)
          have HLN := Lib.hid (wrTo_len (ns := ls) HNS.out HDL.out (fun j hj => (HVL.out j hj).2) k (by omega))
          generalize gt m k = x at *
          by_cases hx : x = 0
          · have hxb : (x == 0) = true := by simpa using hx
            have HN := Lib.hid ((HSK.out hx).trans HWT.out)
            clear hx
            go_wp2_with fail
            go_roundg (3 - k)
            case rel => exact ⟨k + 1, f, t, by omega, by omega, by go_num, HN.out, rfl, hbd, hwr⟩
            case measure => have := HG.out; omega
          · have hxb : (x == 0) = false := by simpa using hx
            obtain ⟨b1, o1, rfl, q1, c1⟩ := strs_at HR.out (k := k) (HKL.out hx)
            have hkl := HKL.out hx
            have j2 : (k : Int) < (ls.length : Int) := by omega
            have hnm : (ls.getD k []).length ≤ 16 := HNS.out _ (by simp [List.getElem?_eq_getElem hkl])
            have HN := Lib.hid (HTK.out hx)
            unfold nmAt at HN
            rw [HWT.out] at HN HLN
            generalize ls.getD k [] = nm at *
            have hlt' : t.length ≤ 20000 := by have := HLN.out; simp only at this; omega
            have hx1 := HX.out
            have HX1 := Lib.hid hx1
            have HPS := Lib.hid (powS_len hx1.2)
            cases f
            · have hwr0 := hwr
              have hbd0 := hbd
              have hz0 := hz
              clear hwr hbd
              have c2 : wr.cell? ⟨b1, o1 + k, none⟩ = some (.string ⟨nm.toArray⟩) := (hwr0.1.cell (p := ⟨b1, o1 + k, none⟩) q1).trans c1
              have HWN := Lib.hid (WS_any B b pre (t) nm wr hbd0 (by omega) hz0)
              clear c1
              go_wp2_with fail
              refine HWN.out.mono ?_
              rintro e w5 ⟨rfl, hbd5, hwr5⟩
              have hwr5' := hwr0.trans hwr5
              have hz5 := Nat.le_trans hz0 hwr5.1.size
              clear hwr5 c2
              by_cases hx2 : 1 < x
              · have HP := Lib.hid (show powS x = [94] ++ Lib.decDigits x.toNat by unfold powS; rw [if_pos hx2]; rfl)
                have HWC := Lib.hid (WS_any B b pre (t ++ nm) [94] w5 hbd5 (by simp; omega) hz5)
                go_wp2_with fail
                refine HWC.out.mono ?_
                rintro e w6 ⟨rfl, hbd6, hwr6⟩
                have hwr6' := hwr5'.trans hwr6
                have hz6 := Nat.le_trans hz5 hwr6.1.size
                clear hwr6 hbd5 hwr5'
                have HIT := Lib.hid (Itoa_nn B b x hx1.1 hx1.2 w6 hz6 (HT.out.on hwr6'.1))
                go_wp2_with fail
                refine HIT.out.mono ?_
                rintro e w7 ⟨rfl, hb7, hwr7⟩
                have hbd7 := hbd6.old hb7
                have hwr7' := hwr6'.trans hwr7
                have hz7 := Nat.le_trans hz6 hwr7.1.size
                clear hwr7 hb7 hbd6 hwr6'
                have HWD := Lib.hid (WS_any B b pre (t ++ nm ++ [94]) (Lib.decDigits x.toNat) w7 hbd7 (by have := HPS.out; rw [HP.out] at this; simp at this ⊢; omega) hz7)
                generalize hdx : Lib.decDigits x.toNat = dx at *
                have HDX := Lib.hid hdx
                clear hdx
                go_wp2_with fail
                refine HWD.out.mono ?_
                rintro e w8 ⟨rfl, hbd8, hwr8⟩
                have hwr8' := hwr7'.trans hwr8
                clear hwr8 hbd7 hwr7'
                go_wp2_with fail
                go_roundg (3 - k)
                case rel =>
                  refine ⟨k + 1, true, _, by omega, by omega, by go_num, HN.out, rfl, ?_, hwr8'⟩
                  rw [HP.out]
                  simpa using hbd8
                case measure => have := HG.out; omega
              · have HP := Lib.hid (show powS x = [] by unfold powS; rw [if_neg hx2])
                go_wp2_with fail
                go_roundg (3 - k)
                case rel =>
                  refine ⟨k + 1, true, _, by omega, by omega, by go_num, HN.out, rfl, ?_, hwr5'⟩
                  rw [HP.out]
                  simpa using hbd5
                case measure => have := HG.out; omega
            · have HWT' := Lib.hid (WS_any B b pre t [42] wr hbd (by simp; omega) hz)
              have hz' := hz
              go_wp2_with fail
              refine HWT'.out.mono ?_
              rintro e w4 ⟨rfl, hbd0, hwr4⟩
              have hwr0 := hwr.trans hwr4
              have hz0 := Nat.le_trans hz' hwr4.1.size
              clear hwr hbd hwr4
              have c2 : w4.cell? ⟨b1, o1 + k, none⟩ = some (.string ⟨nm.toArray⟩) := (hwr0.1.cell (p := ⟨b1, o1 + k, none⟩) q1).trans c1
              have HWN := Lib.hid (WS_any B b pre (t ++ [42]) nm w4 hbd0 (by simp; omega) hz0)
              clear c1
              go_wp2_with fail
              refine HWN.out.mono ?_
              rintro e w5 ⟨rfl, hbd5, hwr5⟩
              have hwr5' := hwr0.trans hwr5
              have hz5 := Nat.le_trans hz0 hwr5.1.size
              clear hwr5 c2
              by_cases hx2 : 1 < x
              · have HP := Lib.hid (show powS x = [94] ++ Lib.decDigits x.toNat by unfold powS; rw [if_pos hx2]; rfl)
                have HWC := Lib.hid (WS_any B b pre (t ++ [42] ++ nm) [94] w5 hbd5 (by simp; omega) hz5)
                go_wp2_with fail
                refine HWC.out.mono ?_
                rintro e w6 ⟨rfl, hbd6, hwr6⟩
                have hwr6' := hwr5'.trans hwr6
                have hz6 := Nat.le_trans hz5 hwr6.1.size
                clear hwr6 hbd5 hwr5'
                have HIT := Lib.hid (Itoa_nn B b x hx1.1 hx1.2 w6 hz6 (HT.out.on hwr6'.1))
                go_wp2_with fail
                refine HIT.out.mono ?_
                rintro e w7 ⟨rfl, hb7, hwr7⟩
                have hbd7 := hbd6.old hb7
                have hwr7' := hwr6'.trans hwr7
                have hz7 := Nat.le_trans hz6 hwr7.1.size
                clear hwr7 hb7 hbd6 hwr6'
                have HWD := Lib.hid (WS_any B b pre (t ++ [42] ++ nm ++ [94]) (Lib.decDigits x.toNat) w7 hbd7 (by have := HPS.out; rw [HP.out] at this; simp at this ⊢; omega) hz7)
                generalize hdx : Lib.decDigits x.toNat = dx at *
                have HDX := Lib.hid hdx
                clear hdx
                go_wp2_with fail
                refine HWD.out.mono ?_
                rintro e w8 ⟨rfl, hbd8, hwr8⟩
                have hwr8' := hwr7'.trans hwr8
                clear hwr8 hbd7 hwr7'
                go_wp2_with fail
                go_roundg (3 - k)
                case rel =>
                  refine ⟨k + 1, true, _, by omega, by omega, by go_num, HN.out, rfl, ?_, hwr8'⟩
                  rw [HP.out]
                  simpa using hbd8
                case measure => have := HG.out; omega
              · have HP := Lib.hid (show powS x = [] by unfold powS; rw [if_neg hx2])
                go_wp2_with fail
                go_roundg (3 - k)
                case rel =>
                  refine ⟨k + 1, true, _, by omega, by omega, by go_num, HN.out, rfl, ?_, hwr5'⟩
                  rw [HP.out]
                  simpa using hbd5
                case measure => have := HG.out; omega
        · obtain rfl : k = 4 := by omega
          go_wp2_with fail
          go_end0
          exact ⟨rfl, by rw [HWT.out]; exact hbd, hwr⟩
  · have hs := H2.out hv1
    have HW := Lib.hid (HW1.out (fun hh => hv1 hh.1))
    clear HW1 HW2 H1 H2 HEQ hv1
    go_enter Tryz.func26, Tryz.ntmps26
    go_wp2_with fail
    refine (HIA.out _ HB0.out).mono ?_
    rintro e w1 ⟨A1, c1, rfl, hn1, hb1⟩
    have HDF := Lib.hid (DFormat_any A1 c1 w1.heap.size es w1 (Nat.le_refl _) hn1 HDD.out)
    rw [HVD.out] at HDF
    have hk1 := HK0.out.old hb1
    have hb1' := HB0.out.trans (hb1.mono HB0.out.size)
    clear hn1 hb1
    go_wp2_with fail
    refine HDF.out.mono ?_
    rintro e w2 ⟨rfl, hb2⟩
    have hk2 := hk1.old hb2
    have hb2' := hb1'.trans (hb2.mono hb1'.size)
    have hbd2 := HBL.out.old hb2'
    have hz2 := hb2'.size
    have hkb := hk2.lt
    clear hb1' hb2 hk1
    have d0 : w2.cell? ⟨w.heap.size, 2, none⟩ = some (.int .i64 m0) := hk2.cell 2
    have d1 : w2.cell? ⟨w.heap.size, 3, none⟩ = some (.int .i64 m1) := hk2.cell 3
    have d2 : w2.cell? ⟨w.heap.size, 4, none⟩ = some (.int .i64 m2) := hk2.cell 4
    have d3 : w2.cell? ⟨w.heap.size, 5, none⟩ = some (.int .i64 m3) := hk2.cell 5
    have HWS := Lib.hid (WS_any B b pre [] (Lib.decDigits v) w2 hbd2 (by have := HDL.out; simp; omega) (Nat.le_trans hB hz2))
    rw [List.nil_append] at HWS
    generalize (⟨(Lib.decDigits v).toArray⟩ : ByteArray) = sv at *
    go_wp2_with fail
    refine HWS.out.mono ?_
    rintro e w3 ⟨rfl, hbd3, hwr⟩
    have hk3 := hwr.blk hk2 (by omega) (by decide)
    have hw3 : Wr B b w w3 := (Wr.of_below hB hb2').trans hwr
    clear d0 d1 d2 d3 hwr hbd2 hk2 hz2 hkb hb2'
    have d0 : w3.cell? ⟨w.heap.size, 2, none⟩ = some (.int .i64 m0) := hk3.cell 2
    have d1 : w3.cell? ⟨w.heap.size, 3, none⟩ = some (.int .i64 m1) := hk3.cell 3
    have d2 : w3.cell? ⟨w.heap.size, 4, none⟩ = some (.int .i64 m2) := hk3.cell 4
    have d3 : w3.cell? ⟨w.heap.size, 5, none⟩ = some (.int .i64 m3) := hk3.cell 5
    go_wp2_with fail
    go_loopg [7, 8, 9, 28] 4 (fun gn wv _ _ i wr => ∃ (k : Nat) (f : Bool) (t : Bs), k ≤ 4 ∧ gn = 4 - k ∧ i = .int .i64 k ∧ wrTo ls v m k = (f, t) ∧ wv = .bool f ∧ BL B b pre t wr ∧ Wr B b w wr)
    case atStart => exact ⟨0, true, Lib.decDigits v, by omega, rfl, rfl, HW.out, rfl, hbd3, hw3⟩
    case round =>
      clear hbd3 hw3 hk3 d0 d1 d2 d3
      obtain ⟨k, f, t, hk, hgk, rfl, hwt, rfl, hbd, hwr⟩ := hrel
      have HG := Lib.hid hgk; have HWT := Lib.hid hwt
      clear hgk hwt
      have hz := Nat.le_trans hB hwr.1.size
      by_cases hlt : k < 4
      · have hix := fun (W : World) => Tryz.index_mono m k hlt W
        unfold moV at hix
        rw [show m.1 = m0 from HM.out.1, show m.2.1 = m1 from HM.out.2.1, show m.2.2.1 = m2 from HM.out.2.2.1, show m.2.2.2 = m3 from HM.out.2.2.2] at hix
        have j1 : (k : Int) < 4 := by omega
        have j0 : (0 : Int) ≤ (k : Int) := by omega
        have HX := Lib.hid (HVL.out k hlt)
        have HKL := Lib.hid (HLV.out k hlt)
        have HSK := Lib.hid (@wrTo_skip ls v m k)
        have HTK := Lib.hid (@wrTo_take ls v m k)
        have HLN := Lib.hid (wrTo_len (ns := ls) HNS.out HDL.out (fun j hj => (HVL.out j hj).2) k (by omega))
        generalize gt m k = x at *
        by_cases hx : x = 0
        · have hxb : (x == 0) = true := by simpa using hx
          have HN := Lib.hid ((HSK.out hx).trans HWT.out)
          clear hx
          go_wp2_with fail
          go_roundg (3 - k)
          case rel => exact ⟨k + 1, f, t, by omega, by omega, by go_num, HN.out, rfl, hbd, hwr⟩
          case measure => have := HG.out; omega
        · have hxb : (x == 0) = false := by simpa using hx
          obtain ⟨b1, o1, rfl, q1, c1⟩ := strs_at HR.out (k := k) (HKL.out hx)
          have hkl := HKL.out hx
          have j2 : (k : Int) < (ls.length : Int) := by omega
          have hnm : (ls.getD k []).length ≤ 16 := HNS.out _ (by simp [List.getElem?_eq_getElem hkl])
          have HN := Lib.hid (HTK.out hx)
          unfold nmAt at HN
          rw [HWT.out] at HN HLN
          generalize ls.getD k [] = nm at *
          have hlt' : t.length ≤ 20000 := by have := HLN.out; simp only at this; omega
          have hx1 := HX.out
          have HX1 := Lib.hid hx1
          have HPS := Lib.hid (powS_len hx1.2)
          cases f
          · have hwr0 := hwr
            have hbd0 := hbd
            have hz0 := hz
            clear hwr hbd
            have c2 : wr.cell? ⟨b1, o1 + k, none⟩ = some (.string ⟨nm.toArray⟩) := (hwr0.1.cell (p := ⟨b1, o1 + k, none⟩) q1).trans c1
            have HWN := Lib.hid (WS_any B b pre (t) nm wr hbd0 (by omega) hz0)
            clear c1
            go_wp2_with fail
            refine HWN.out.mono ?_
            rintro e w5 ⟨rfl, hbd5, hwr5⟩
            have hwr5' := hwr0.trans hwr5
            have hz5 := Nat.le_trans hz0 hwr5.1.size
            clear hwr5 c2
            by_cases hx2 : 1 < x
            · have HP := Lib.hid (show powS x = [94] ++ Lib.decDigits x.toNat by unfold powS; rw [if_pos hx2]; rfl)
              have HWC := Lib.hid (WS_any B b pre (t ++ nm) [94] w5 hbd5 (by simp; omega) hz5)
              go_wp2_with fail
              refine HWC.out.mono ?_
              rintro e w6 ⟨rfl, hbd6, hwr6⟩
              have hwr6' := hwr5'.trans hwr6
              have hz6 := Nat.le_trans hz5 hwr6.1.size
              clear hwr6 hbd5 hwr5'
              have HIT := Lib.hid (Itoa_nn B b x hx1.1 hx1.2 w6 hz6 (HT.out.on hwr6'.1))
              go_wp2_with fail
              refine HIT.out.mono ?_
              rintro e w7 ⟨rfl, hb7, hwr7⟩
              have hbd7 := hbd6.old hb7
              have hwr7' := hwr6'.trans hwr7
              have hz7 := Nat.le_trans hz6 hwr7.1.size
              clear hwr7 hb7 hbd6 hwr6'
              have HWD := Lib.hid (WS_any B b pre (t ++ nm ++ [94]) (Lib.decDigits x.toNat) w7 hbd7 (by have := HPS.out; rw [HP.out] at this; simp at this ⊢; omega) hz7)
              generalize hdx : Lib.decDigits x.toNat = dx at *
              have HDX := Lib.hid hdx
              clear hdx
              go_wp2_with fail
              refine HWD.out.mono ?_
              rintro e w8 ⟨rfl, hbd8, hwr8⟩
              have hwr8' := hwr7'.trans hwr8
              clear hwr8 hbd7 hwr7'
              go_wp2_with fail
              go_roundg (3 - k)
              case rel =>
                refine ⟨k + 1, true, _, by omega, by omega, by go_num, HN.out, rfl, ?_, hwr8'⟩
                rw [HP.out]
                simpa using hbd8
              case measure => have := HG.out; omega
            · have HP := Lib.hid (show powS x = [] by unfold powS; rw [if_neg hx2])
              go_wp2_with fail
              go_roundg (3 - k)
              case rel =>
                refine ⟨k + 1, true, _, by omega, by omega, by go_num, HN.out, rfl, ?_, hwr5'⟩
                rw [HP.out]
                simpa using hbd5
              case measure => have := HG.out; omega
          · have HWT' := Lib.hid (WS_any B b pre t [42] wr hbd (by simp; omega) hz)
            have hz' := hz
            go_wp2_with fail
            refine HWT'.out.mono ?_
            rintro e w4 ⟨rfl, hbd0, hwr4⟩
            have hwr0 := hwr.trans hwr4
            have hz0 := Nat.le_trans hz' hwr4.1.size
            clear hwr hbd hwr4
            have c2 : w4.cell? ⟨b1, o1 + k, none⟩ = some (.string ⟨nm.toArray⟩) := (hwr0.1.cell (p := ⟨b1, o1 + k, none⟩) q1).trans c1
            have HWN := Lib.hid (WS_any B b pre (t ++ [42]) nm w4 hbd0 (by simp; omega) hz0)
            clear c1
            go_wp2_with fail
            refine HWN.out.mono ?_
            rintro e w5 ⟨rfl, hbd5, hwr5⟩
            have hwr5' := hwr0.trans hwr5
            have hz5 := Nat.le_trans hz0 hwr5.1.size
            clear hwr5 c2
            by_cases hx2 : 1 < x
            · have HP := Lib.hid (show powS x = [94] ++ Lib.decDigits x.toNat by unfold powS; rw [if_pos hx2]; rfl)
              have HWC := Lib.hid (WS_any B b pre (t ++ [42] ++ nm) [94] w5 hbd5 (by simp; omega) hz5)
              go_wp2_with fail
              refine HWC.out.mono ?_
              rintro e w6 ⟨rfl, hbd6, hwr6⟩
              have hwr6' := hwr5'.trans hwr6
              have hz6 := Nat.le_trans hz5 hwr6.1.size
              clear hwr6 hbd5 hwr5'
              have HIT := Lib.hid (Itoa_nn B b x hx1.1 hx1.2 w6 hz6 (HT.out.on hwr6'.1))
              go_wp2_with fail
              refine HIT.out.mono ?_
              rintro e w7 ⟨rfl, hb7, hwr7⟩
              have hbd7 := hbd6.old hb7
              have hwr7' := hwr6'.trans hwr7
              have hz7 := Nat.le_trans hz6 hwr7.1.size
              clear hwr7 hb7 hbd6 hwr6'
              have HWD := Lib.hid (WS_any B b pre (t ++ [42] ++ nm ++ [94]) (Lib.decDigits x.toNat) w7 hbd7 (by have := HPS.out; rw [HP.out] at this; simp at this ⊢; omega) hz7)
              generalize hdx : Lib.decDigits x.toNat = dx at *
              have HDX := Lib.hid hdx
              clear hdx
              go_wp2_with fail
              refine HWD.out.mono ?_
              rintro e w8 ⟨rfl, hbd8, hwr8⟩
              have hwr8' := hwr7'.trans hwr8
              clear hwr8 hbd7 hwr7'
              go_wp2_with fail
              go_roundg (3 - k)
              case rel =>
                refine ⟨k + 1, true, _, by omega, by omega, by go_num, HN.out, rfl, ?_, hwr8'⟩
                rw [HP.out]
                simpa using hbd8
              case measure => have := HG.out; omega
            · have HP := Lib.hid (show powS x = [] by unfold powS; rw [if_neg hx2])
              go_wp2_with fail
              go_roundg (3 - k)
              case rel =>
                refine ⟨k + 1, true, _, by omega, by omega, by go_num, HN.out, rfl, ?_, hwr5'⟩
                rw [HP.out]
                simpa using hbd5
              case measure => have := HG.out; omega
      · obtain rfl : k = 4 := by omega
        go_wp2_with fail
        go_end0
        exact ⟨rfl, by rw [HWT.out]; exact hbd, hwr⟩
end Go.Proofs.YtnghlhcekghciaaGreatDoor
