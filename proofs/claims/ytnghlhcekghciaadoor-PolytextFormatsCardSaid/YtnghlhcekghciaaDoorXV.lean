/- The reference's text of a term. -/
import Derived.Test.YtnghlhcekghciaaDoorXR
import Derived.Test.YtnghlhcekghciaaDoorXS
import Derived.Test.YtnghlhcekghciaaDoorXH
namespace Go.Proofs.YtnghlhcekghciaaDoor
open Go.RowKit

theorem nat_one {w : World} {g x : Nat} (hx : x < 4294967296) (hb : Blk w g 32 #[.int .u32 (x : Int)]) : NatIn w w.heap.size (some ⟨g, 0, none⟩) 1 [x] where
  rd := ⟨rfl, fun _ => ⟨g, 0, rfl, hb.lt, fun j u hu => by
    match j, hu with
    | 0, hu => simp [u32s] at hu; subst hu; exact (hb.cell 0)
    | j + 1, hu => simp [u32s] at hu⟩⟩
  dg := by intro d hd; simp at hd; omega
  cap := Nat.le_refl _
theorem toList_bs (l : Bs) : (⟨l.toArray⟩ : ByteArray).toList = l := by rw [ByteArray.toList_eq]
/-- a term's own copy: its exponents -/
theorem exp_at {w : World} {g : Nat} {p : PT} (h : Blk w g 40 p.cells.toArray) {k : Nat} (hk : k < 4) : w.cell? ⟨g, 2 + k, none⟩ = some (.int .i64 (gt p.m k)) := by
  rw [h.cell]
  rcases (by omega : k = 0 ∨ k = 1 ∨ k = 2 ∨ k = 3) with rfl | rfl | rfl | rfl <;> rfl

set_option maxHeartbeats 4000000 in
set_option maxRecDepth 100000 in
theorem RTerm_any (B : Nat) (p : PT) (A : Option Addr) (c : Nat) (ls : List Bs) (w : World) (hB : B ≤ w.heap.size) (hp : NatIn w B p.A p.c p.ds) (hpl : p.ds.length ≤ 1000)
    (hl : Reads w B 1 A ls.length (ls.map strV)) (h4 : ls.length ≤ 4) (hok : NmOk ls) (hvl : ∀ j, j < 4 → 0 ≤ gt p.m j ∧ gt p.m j ≤ 4294967295) (hlv : LvOk ls p.m) :
    Calls Tryd.prog 30 #[.agg p.cells.toArray, .slice A ls.length c] w fun e w' => e = .returned (.string ⟨(termS ls (val p.ds) p.m).toArray⟩) ∧ Below w.heap.size w w' := by
  have HEND := Lib.hid (rtTo_term hok h4 (c := val p.ds) hlv)
  have hk0 := Blk.new w 40 p.cells.toArray
  have hb0 := (Below.refl _ w).alloc (Nat.le_refl _) (.cells p.cells.toArray 40)
  have HDD := Lib.hid (fun (W : World) (hW : Below w.heap.size w W) => RDecimal_any p.A p.c B p.ds W (Nat.le_trans hB hW.size) (hp.below (hW.mono hB)) hpl)
  have HNS := Lib.hid (show ∀ n ∈ ls, n.length ≤ 16 from fun n hn => (nameB_len (hok n hn)).2)
  have HDL := Lib.hid (show (Lib.decDigits (val p.ds)).length ≤ 10001 by
    have h1 := pow_dec p.ds.length
    rw [Nat.pow_mul, show (2 : Nat) ^ 32 = 4294967296 by decide] at h1
    have h2 := Nat.lt_of_lt_of_le (val_lt hp.dg) h1
    have h3 : 10 ^ (10 * p.ds.length) ≤ 10 ^ (10 * p.ds.length + 1) := Nat.pow_le_pow_right (by decide) (by omega)
    have := decD_len (Nat.lt_of_lt_of_le h2 h3)
    omega)
  have HSK := Lib.hid (fun k => @rtTo_skip ls (val p.ds) p.m k)
  have HTK := Lib.hid (fun k => @rtTo_take ls (val p.ds) p.m k)
  have HST := Lib.hid (show rtTo ls (val p.ds) p.m 0 = Lib.decDigits (val p.ds) from rfl)
  have HLN := Lib.hid (fun k hk => rtTo_len (ns := ls) HNS.out HDL.out (m := p.m) (fun j hj => by have := (hvl j hj).2; omega) k hk)
  have HVL := Lib.hid hvl; have HR := Lib.hid hl; have HK0 := Lib.hid hk0; have HB0 := Lib.hid hb0
  have HXA := Lib.hid (fun (W : World) (h : Blk W w.heap.size 40 p.cells.toArray) k hk => exp_at h (k := k) hk)
  clear hp hl hok hvl hlv hk0 hb0
  generalize val p.ds = v at *
  simp only [PT.cells] at *
  generalize hmm : p.m = m at *
  generalize p.ng = ng at *
  generalize p.A = Ap at *
  generalize p.ds.length = np at *
  generalize p.c = cp at *
  clear hmm
  generalize rtTo ls v m = RT at *
  generalize hn : ls.length = n at *
  have HN := Lib.hid hn
  clear hn
  go_enter Tryd.func30, Tryd.ntmps30
  go_wp2_with fail
  refine (HDD.out _ HB0.out).mono ?_
  rintro e w1 ⟨rfl, hb1⟩
  rw [← HST.out]
  have hk1 := HK0.out.old hb1
  have hb1' := HB0.out.trans (hb1.mono HB0.out.size)
  clear hb1 HB0 HK0
  go_wp2_with fail
  go_loopg [5, 6, 13] n (fun gn sv _ ix wr => ∃ k : Nat, k ≤ n ∧ gn = n - k ∧ ix = .int .i64 k ∧ sv = .string ⟨(RT k).toArray⟩ ∧ Blk wr w.heap.size 40 #[.bool ng, .slice Ap np cp, .int .i64 m.1, .int .i64 m.2.1, .int .i64 m.2.2.1, .int .i64 m.2.2.2] ∧ Below w.heap.size w wr)
  case atStart => exact ⟨0, by omega, rfl, rfl, rfl, hk1, hb1'⟩
  case round =>
    clear hk1 hb1'
    obtain ⟨k, hk, hgk, rfl, rfl, hkb, hbl⟩ := hrel
    have HG := Lib.hid hgk
    clear hgk
    have hz := hbl.size
    have HKB := Lib.hid hkb
    by_cases hlt : k < n
    · have c0 := HXA.out wr hkb k (by omega)
      have i1 : (k : Int) < (n : Int) := by omega
      have i0 : (0 : Int) ≤ (k : Int) := by omega
      have i4 : (k : Int) < 4 := by omega
      have hx01 := HVL.out k (by omega)
      have HSK1 := Lib.hid (HSK.out k)
      have HTK1 := Lib.hid (HTK.out k)
      have hln := HLN.out k (by omega)
      have HXK := Lib.hid (fun (W : World) hW => HXA.out W hW k (by omega))
      generalize gt m k = x at *
      have hkl := hkb.lt
      generalize hR1 : RT (k + 1) = R1 at *
      have HR1 := Lib.hid hR1
      clear hR1
      by_cases hx : x = 0
      · subst hx
        have HE := Lib.hid (HSK1.out rfl)
        clear hkb
        go_wp2_with fail
        go_roundg (n - (k + 1))
        case rel => exact ⟨k + 1, by omega, rfl, by go_num, by rw [HR1.out, HE.out], HKB.out, hbl⟩
        case measure => have := HG.out; omega
      · have hxb : (x == 0) = false := by simpa using hx
        have HE := Lib.hid (HTK1.out hx)
        obtain ⟨b2, o2, rfl, q2, cn⟩ := strs_at (HR.out.below (hbl.mono hB)) (k := k) (by omega)
        have hnm : (ls.getD k []).length ≤ 16 := HNS.out _ (by have := HN.out; simp [List.getElem?_eq_getElem (show k < ls.length by omega)])
        have l2 : b2 < wr.heap.size := by omega
        unfold nmAt at HE
        generalize ls.getD k [] = nm at *
        generalize RT k = S at *
        have hR1l := congrArg List.length HE.out
        clear hx HTK1 HSK1
        by_cases hS : S = [49]
        · have hs : (⟨S.toArray⟩ : ByteArray).toList = [49] := by rw [toList_bs]; exact hS
          have HE1 := Lib.hid (show R1 = nm ++ powS x by rw [HE.out, if_pos hS, List.nil_append])
          obtain ⟨U, hU⟩ : ∃ U, U = nm := ⟨_, rfl⟩
          have hUl : U.length ≤ 20000 := by rw [hU]; omega
          have HU := Lib.hid hU
          have ha2 : ∀ W, (Op.stringOp .add ⟨#[]⟩ ⟨nm.toArray⟩).run Tryd.prog W = .ok (.string ⟨U.toArray⟩) W := fun W => by rw [HU.out]; exact run_addb [] nm (by simp; omega) W
          clear hS hU HE
          by_cases hx1 : 1 < x
          · have HE2 := Lib.hid (show R1 = U ++ (94 :: Lib.decDigits x.toNat) by rw [HE1.out, HU.out]; unfold powS; rw [if_pos hx1])
            have hdx := decD_len (n := x.toNat) (k := 9) (by omega)
            have hx2 : (0 : Int) ≤ x := hx01.1
            have hx3 : x ≤ 4294967295 := hx01.2
            have hx5 : x < 4294967296 := by omega
            have hxn : ((x.toNat : Nat) : Int) = x := by omega
            have ha3 : ∀ W, (Op.stringOp .add ⟨#[94]⟩ ⟨(Lib.decDigits x.toNat).toArray⟩).run Tryd.prog W = .ok (.string ⟨(94 :: Lib.decDigits x.toNat).toArray⟩) W := fun W => run_addb [94] (Lib.decDigits x.toNat) (by simp; omega) W
            have ha4 : ∀ W, (Op.stringOp .add ⟨U.toArray⟩ ⟨(94 :: Lib.decDigits x.toNat).toArray⟩).run Tryd.prog W = .ok (.string ⟨R1.toArray⟩) W := fun W => by
              rw [HE2.out]
              exact run_addb U (94 :: Lib.decDigits x.toNat) (by rw [List.length_cons]; omega) W
            have hbx := Blk.new wr 32 #[.int .u32 x]
            have hbal := hbl.alloc hz (.cells #[.int .u32 x] 32)
            have HKA := Lib.hid (hkb.alloc (.cells #[.int .u32 x] 32))
            have HRD := Lib.hid (RDecimal_any (some ⟨wr.heap.size, 0, none⟩) 1 _ [x.toNat] _ (Nat.le_refl _) (nat_one (by omega) (by rw [hxn]; exact hbx)) (by simp))
            rw [show val [x.toNat] = x.toNat by simp [val], show ([x.toNat] : List Nat).length = 1 from rfl] at HRD
            generalize Lib.decDigits x.toNat = D at *
            generalize (⟨U.toArray⟩ : ByteArray) = uv at *
            generalize (⟨D.toArray⟩ : ByteArray) = dv at *
            generalize (⟨(94 :: D).toArray⟩ : ByteArray) = ev at *
            generalize (⟨S.toArray⟩ : ByteArray) = sv at *
            generalize (⟨nm.toArray⟩ : ByteArray) = nv at *
            have HBA := Lib.hid hbal
            clear hbx hbal hxn hkb hdx hR1l
            go_wp2_with fail
            refine HRD.out.mono ?_
            rintro e w4 ⟨rfl, hb4⟩
            have hkb4 := HKA.out.old hb4
            have hbl4 := HBA.out.trans (hb4.mono HBA.out.size)
            clear c0 cn hb4 hbl
            go_wp2_with fail
            go_roundg (n - (k + 1))
            case rel => exact ⟨k + 1, by omega, rfl, by go_num, by rw [HR1.out], hkb4, hbl4⟩
            case measure => have := HG.out; omega
          · have HE2 := Lib.hid (show R1 = U by rw [HE1.out, HU.out]; unfold powS; rw [if_neg hx1, List.append_nil])
            generalize hU : (⟨U.toArray⟩ : ByteArray) = uv at *
            have HUV := Lib.hid hU
            generalize (⟨S.toArray⟩ : ByteArray) = sv at *
            generalize (⟨nm.toArray⟩ : ByteArray) = nv at *
            have hx6 : x ≤ 1 := by omega
            clear hkb hR1l hU
            go_wp2_with fail
            go_roundg (n - (k + 1))
            case rel => exact ⟨k + 1, by omega, rfl, by go_num, by rw [HR1.out, HE2.out, HUV.out], HKB.out, hbl⟩
            case measure => have := HG.out; omega
        · have hs : ((⟨S.toArray⟩ : ByteArray).toList == [49]) = false := by rw [toList_bs]; simpa using hS
          have HE1 := Lib.hid (show R1 = (S ++ [42] ++ nm) ++ powS x by rw [HE.out, if_neg hS])
          obtain ⟨T, hT⟩ : ∃ T, T = S ++ [42] := ⟨_, rfl⟩
          obtain ⟨U, hU⟩ : ∃ U, U = S ++ [42] ++ nm := ⟨_, rfl⟩
          have hUl : U.length ≤ 20000 := by rw [hU, List.length_append, List.length_append, List.length_singleton]; omega
          have HU := Lib.hid hU
          have HT := Lib.hid hT
          have ha1 : ∀ W, (Op.stringOp .add ⟨S.toArray⟩ ⟨#[42]⟩).run Tryd.prog W = .ok (.string ⟨T.toArray⟩) W := fun W => by rw [HT.out]; exact run_addb S [42] (by simp; omega) W
          have ha2 : ∀ W, (Op.stringOp .add ⟨T.toArray⟩ ⟨nm.toArray⟩).run Tryd.prog W = .ok (.string ⟨U.toArray⟩) W := fun W => by rw [HU.out, HT.out]; exact run_addb (S ++ [42]) nm (by simp; omega) W
          clear hS hU hT HE
          generalize (⟨T.toArray⟩ : ByteArray) = tv at *
          by_cases hx1 : 1 < x
          · have HE2 := Lib.hid (show R1 = U ++ (94 :: Lib.decDigits x.toNat) by rw [HE1.out, HU.out]; unfold powS; rw [if_pos hx1])
            have hdx := decD_len (n := x.toNat) (k := 9) (by omega)
            have hx2 : (0 : Int) ≤ x := hx01.1
            have hx3 : x ≤ 4294967295 := hx01.2
            have hx5 : x < 4294967296 := by omega
            have hxn : ((x.toNat : Nat) : Int) = x := by omega
            have ha3 : ∀ W, (Op.stringOp .add ⟨#[94]⟩ ⟨(Lib.decDigits x.toNat).toArray⟩).run Tryd.prog W = .ok (.string ⟨(94 :: Lib.decDigits x.toNat).toArray⟩) W := fun W => run_addb [94] (Lib.decDigits x.toNat) (by simp; omega) W
            have ha4 : ∀ W, (Op.stringOp .add ⟨U.toArray⟩ ⟨(94 :: Lib.decDigits x.toNat).toArray⟩).run Tryd.prog W = .ok (.string ⟨R1.toArray⟩) W := fun W => by
              rw [HE2.out]
              exact run_addb U (94 :: Lib.decDigits x.toNat) (by rw [List.length_cons]; omega) W
            have hbx := Blk.new wr 32 #[.int .u32 x]
            have hbal := hbl.alloc hz (.cells #[.int .u32 x] 32)
            have HKA := Lib.hid (hkb.alloc (.cells #[.int .u32 x] 32))
            have HRD := Lib.hid (RDecimal_any (some ⟨wr.heap.size, 0, none⟩) 1 _ [x.toNat] _ (Nat.le_refl _) (nat_one (by omega) (by rw [hxn]; exact hbx)) (by simp))
            rw [show val [x.toNat] = x.toNat by simp [val], show ([x.toNat] : List Nat).length = 1 from rfl] at HRD
            generalize Lib.decDigits x.toNat = D at *
            generalize (⟨U.toArray⟩ : ByteArray) = uv at *
            generalize (⟨D.toArray⟩ : ByteArray) = dv at *
            generalize (⟨(94 :: D).toArray⟩ : ByteArray) = ev at *
            generalize (⟨S.toArray⟩ : ByteArray) = sv at *
            generalize (⟨nm.toArray⟩ : ByteArray) = nv at *
            have HBA := Lib.hid hbal
            clear hbx hbal hxn hkb hdx hR1l
            go_wp2_with fail
            refine HRD.out.mono ?_
            rintro e w4 ⟨rfl, hb4⟩
            have hkb4 := HKA.out.old hb4
            have hbl4 := HBA.out.trans (hb4.mono HBA.out.size)
            clear c0 cn hb4 hbl
            go_wp2_with fail
            go_roundg (n - (k + 1))
            case rel => exact ⟨k + 1, by omega, rfl, by go_num, by rw [HR1.out], hkb4, hbl4⟩
            case measure => have := HG.out; omega
          · have HE2 := Lib.hid (show R1 = U by rw [HE1.out, HU.out]; unfold powS; rw [if_neg hx1, List.append_nil])
            generalize hU : (⟨U.toArray⟩ : ByteArray) = uv at *
            have HUV := Lib.hid hU
            generalize (⟨S.toArray⟩ : ByteArray) = sv at *
            generalize (⟨nm.toArray⟩ : ByteArray) = nv at *
            have hx6 : x ≤ 1 := by omega
            clear hkb hR1l hU
            go_wp2_with fail
            go_roundg (n - (k + 1))
            case rel => exact ⟨k + 1, by omega, rfl, by go_num, by rw [HR1.out, HE2.out, HUV.out], HKB.out, hbl⟩
            case measure => have := HG.out; omega
    · obtain rfl : k = n := by omega
      have HE := Lib.hid HEND.out
      go_wp2_with fail
      go_ret
      exact ⟨by rw [← HE.out]; rfl, hbl⟩
end Go.Proofs.YtnghlhcekghciaaDoor
