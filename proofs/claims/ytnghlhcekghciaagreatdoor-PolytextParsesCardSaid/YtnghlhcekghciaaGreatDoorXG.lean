/- Contract of polytext.Terms. -/
import Derived.Test.YtnghlhcekghciaaGreatDoorXC
namespace Go.Proofs.YtnghlhcekghciaaGreatDoor
open Go.RowKit

theorem Tryz.infoStr : (Tryz.prog.info? 9).map (fun i => (i.zero, i.size, i.bytes)) = some (some (.string ⟨#[]⟩), 1, 16) := by kernel_rfl
def txt1 (ls : List Bs) (t : Tm) : Bs := (if t.1 < 0 then [45] else []) ++ termS ls t.1.natAbs t.2
theorem termsS_snoc (ls : List Bs) (l : List Tm) (t : Tm) : termsS ls (l ++ [t]) = termsS ls l ++ [txt1 ls t] := by simp [termsS, txt1]
theorem termsS_len (ls : List Bs) (l : List Tm) : (termsS ls l).length = l.length := by simp [termsS]
theorem strs_one (l : List Bs) : ∀ u ∈ l.map strV, u.oneCell' = true := by
  intro u hu
  obtain ⟨b, _, rfl⟩ := List.mem_map.1 hu
  rfl
def TermsRes21 (G : Mo → Int) (ls : List Bs) (N : Nat) (w : World) (e : Ending) (w' : World) : Prop :=
  ((namesB ls = false ∧ e = .returned (.tuple #[.slice none 0 0, .int .i64 1])) ∨
    (namesB ls = true ∧ (∃ P, Canon P ∧ (∀ m, cf P m = G m) ∧ (ls.length : Int) < lvL P) ∧ e = .returned (.tuple #[.slice none 0 0, .int .i64 4])) ∨
    (namesB ls = true ∧ ∃ P, Canon P ∧ (∀ m, cf P m = G m) ∧ lvL P ≤ (ls.length : Int) ∧ P.length ≤ N ∧ (∀ t ∈ termsS ls P, t.length ≤ 10000) ∧
      ∃ A c, e = .returned (.tuple #[.slice A P.length c, .int .i64 0]) ∧ w'.ownsRow w.heap.size 9 1 (.slice A P.length c) P.length ((termsS ls P).map strV))) ∧ Below w.heap.size w w'

set_option maxHeartbeats 4000000 in
set_option maxRecDepth 100000 in
theorem Terms21_any (A A' : Option Addr) (c c' B N : Nat) (E : Int) (M : Nat) (ps : List PT) (ls : List Bs) (w : World) (hB : B ≤ w.heap.size) (h : PIn w B A ps N E M) (hN : N ≤ 10000) (hM : M < Big) (hE : E ≤ 4398046511104) (hn : NIn w B A' c' ls) (htab : TabT w) :
    Calls Tryz.prog 15 #[.slice A ps.length c, .slice A' ls.length c'] w (TermsRes21 (cf (ps.map PT.tm)) ls N w) := by
  obtain ⟨i0, hi0, hz0, hz1, hz2⟩ := info_parts Tryz.infoStr
  have HCK := Lib.hid (check_any A A' c c' B N E M ps ls w hB h (by omega) hM hn)
  have HNI := Lib.hid hn; have HT := Lib.hid htab
  generalize hG : cf (ps.map PT.tm) = G at *
  have HG := Lib.hid hG
  clear h hn hG htab
  go_enter Tryz.func15, Tryz.ntmps15
  go_wp2_with fail
  refine HCK.out.mono ?_
  rintro e w1 ⟨hc, hb1⟩
  have HB1 := Lib.hid hb1
  rcases hc with ⟨hf, rfl⟩ | ⟨ht, hP, rfl⟩ | ⟨ht, A1, c1, qs, rfl, hlv, hgd⟩
  · have HF := Lib.hid hf
    clear hf hb1
    go_wp2_with fail
    go_ret2
    exact ⟨.inl ⟨HF.out, rfl⟩, HB1.out⟩
  · have HF := Lib.hid ht
    have HP := Lib.hid hP
    clear ht hP hb1
    go_wp2_with fail
    go_ret2
    exact ⟨.inr (.inl ⟨HF.out, HP.out, rfl⟩), HB1.out⟩
  · have HF := Lib.hid ht
    have hok := namesB_ok ht
    have HNS := Lib.hid (show ∀ n ∈ ls, n.length ≤ 16 from fun n hn => (nameB_len (hok.2 n hn)).2)
    have HPT := Lib.hid (show ∀ p ∈ qs, p.ds.length ≤ 600 ∧ WfM p.m ∧ (∀ j, j < 4 → 0 ≤ gt p.m j ∧ gt p.m j ≤ 4398046511104) ∧ (∀ j, j < 4 → gt p.m j ≠ 0 → j < ls.length) ∧ (Lib.decDigits (ival p.ng p.ds).natAbs).length ≤ 6001 from fun p hp => by
      have h1 := hgd.vl hp
      have h2 := hgd.mb p hp
      refine ⟨hgd.dlen (k := 600) hM hp, h2.wf h1 (by omega), fun j hj => ?_, fun j hj hne => ?_, decD_pw (Nat.lt_of_le_of_lt (Nat.le_trans (nrm_mem (List.mem_map.2 ⟨p, hp, rfl⟩ : p.tm ∈ qs.map PT.tm)) hgd.nm) hM)⟩
      · have := gt_bd h1 h2 j hj; omega
      · have := lvM_gt h1 hj hne
        have := lv_of (List.mem_map.2 ⟨p, hp, rfl⟩ : p.tm ∈ qs.map PT.tm)
        have e : p.tm.2 = p.m := rfl
        rw [e] at this
        omega)
    have HV := Lib.hid (show Canon (qs.map PT.tm) ∧ (∀ m, cf (qs.map PT.tm) m = G m) ∧ lvL (qs.map PT.tm) ≤ (ls.length : Int) ∧ (qs.map PT.tm).length ≤ N ∧ ∀ t ∈ termsS ls (qs.map PT.tm), t.length ≤ 10000 from ⟨hgd.can, hgd.cf, hlv, by rw [List.length_map]; exact hgd.len, fun t ht => by
      obtain ⟨s, hs, rfl⟩ := List.mem_map.1 ht
      obtain ⟨p, hp, rfl⟩ := List.mem_map.1 hs
      have h := HPT.out p hp
      have h1 := termS_len (ns := ls) HNS.out h.2.2.2.2 (m := p.m) (fun j hj => (h.2.2.1 j hj).2)
      rw [List.length_append]
      have e1 : p.tm.1 = ival p.ng p.ds := rfl
      have e2 : p.tm.2 = p.m := rfl
      rw [e1, e2]
      split <;> simp <;> omega⟩)
    have hpin := hgd.pin (by omega) hM
    have hqn := hgd.len
    have hni := (HNI.out.below (hb1.mono hB)).more (Nat.le_trans hB hb1.size)
    have htb := HT.out.on hb1
    have HPI := Lib.hid hpin; have HNI1 := Lib.hid hni; have HTB := Lib.hid htb
    clear ht hlv hgd hok hb1 hpin hni htb
    generalize hqs : qs.length = n at *
    have HQS := Lib.hid hqs
    clear hqs
    go_wp2_with fail
    have hrow : w1.ownsRow w1.heap.size 9 1 (.slice none 0 0) 0 [] := ⟨rfl, .inl ⟨rfl, rfl⟩⟩
    go_loopg [8, 10, 11, 23] n (fun gn tv _ _ ix wr => ∃ k : Nat, k ≤ n ∧ gn = n - k ∧ ix = .int .i64 k ∧ wr.ownsRow w1.heap.size 9 1 tv k ((termsS ls ((qs.take k).map PT.tm)).map strV) ∧ Below w1.heap.size w1 wr)
    case atStart => exact ⟨0, by omega, rfl, rfl, hrow, Below.refl _ _⟩
    case round =>
      clear hrow
      obtain ⟨k, hk, hgk, rfl, hown, hbl⟩ := hrel
      have HGK := Lib.hid hgk
      clear hgk
      have hz := hbl.size
      by_cases hlt : k < n
      · obtain ⟨p, hp⟩ : ∃ p, qs[k]? = some p := ⟨_, List.getElem?_eq_getElem (by have := HQS.out; omega)⟩
        have hpm := List.mem_of_getElem? hp
        have hin := HPI.out.below hbl
        obtain ⟨b1, o1, rfl, q1, c0, c1', c2, c3, c4, c5⟩ := hin.pin.at_ hp
        have hnt := hin.pin.nt p hpm
        have hpf := HPT.out p hpm
        have HPF := Lib.hid hpf
        have i1 : (k : Int) < (n : Int) := by omega
        have i0' : (0 : Int) ≤ (k : Int) := by omega
        have HTK := Lib.hid (take_snoc_tm hp)
        have HSN := Lib.hid (termsS_snoc ls ((qs.take k).map PT.tm) p.tm)
        have HTX := Lib.hid (show txt1 ls p.tm = (if ival p.ng p.ds < 0 then [45] else []) ++ termS ls (val p.ds) p.m by
          unfold txt1
          rw [show p.tm.1 = ival p.ng p.ds from rfl, ival_abs]
          rfl)
        have HXL := Lib.hid (show (termS ls (val p.ds) p.m).length ≤ 6001 + 124 from termS_len HNS.out (by have h := hpf.2.2.2.2; rwa [ival_abs] at h) (fun j hj => (hpf.2.2.1 j hj).2))
        have hdl := hpf.1
        have hnt' := hnt.more hz
        have HNT := Lib.hid hnt'
        have HSG := Lib.hid (fun (W : World) (hW : Below wr.heap.size wr W) => Sign_any p.ng p.A p.c wr.heap.size p.ds W hW.size (HNT.out.below hW) (by omega))
        have HWT := Lib.hid (fun (b : Nat) (pre : List Value) (W : World) (hbb : wr.heap.size ≤ b) (hW : Below wr.heap.size wr W) (hzW : b ≤ W.heap.size) (hbW : BL b b pre [] W) (hpre : pre.length ≤ 900000000) =>
          writeTerm_any b b pre p A' c' ls W hbW hzW ((HNT.out.below hW).more hbb) (by omega) ((HNI1.out.rd.below (hbl.trans (hW.mono hz))).more (Nat.le_trans hz hbb)) HNS.out hpre HPF.out.2.1 HPF.out.2.2.1 HPF.out.2.2.2.1
            (fun w' hw' => (HTB.out.on (hbl.trans ((hW.mono hz).trans (hw'.mono (Nat.le_trans hz hbb)))))))
        simp only [PT.cells] at HWT
        have q2 : b1 < wr.heap.size := by omega
        clear hpf hin hnt hp hpm hnt'
        have S1 := Lib.hid (@sgn_neg (ival p.ng p.ds)); have S2 := Lib.hid (@sgn_nn (ival p.ng p.ds))
        have hkp := (Blk.new wr 47 (PT.cells p).toArray).alloc (.cells #[.pointer none, .slice none 0 0] 58)
        simp only [PT.cells] at hkp
        have hbp := ((Below.refl wr.heap.size wr).alloc (Nat.le_refl _) (.cells #[.bool p.ng, .slice p.A p.ds.length p.c, .int .i64 p.m.1, .int .i64 p.m.2.1, .int .i64 p.m.2.2.1, .int .i64 p.m.2.2.2] 47)).alloc (by simp) (.cells #[.pointer none, .slice none 0 0] 58)
        have hbd := BL.new (wr.alloc (.cells #[.bool p.ng, .slice p.A p.ds.length p.c, .int .i64 p.m.1, .int .i64 p.m.2.1, .int .i64 p.m.2.2.1, .int .i64 p.m.2.2.2] 47))
        rw [show (wr.alloc (.cells #[.bool p.ng, .slice p.A p.ds.length p.c, .int .i64 p.m.1, .int .i64 p.m.2.1, .int .i64 p.m.2.2.1, .int .i64 p.m.2.2.2] 47)).heap.size = wr.heap.size + 1 by simp] at hbd
        have HKP := Lib.hid hkp; have HBP := Lib.hid hbp; have HBD := Lib.hid hbd
        clear hkp hbp hbd
        generalize hsv : termsS ls ((qs.take k).map PT.tm) = sv at *
        have HSV := Lib.hid hsv
        clear hsv
        by_cases hneg : ival p.ng p.ds < 0
        · have hsg := S1.out hneg
          have HNG := Lib.hid hneg
          clear S1 S2 hneg
          go_wp2_with fail
          refine (HSG.out _ HBP.out).mono ?_
          rintro e w2 ⟨rfl, hw2⟩
          have hb2 : Below wr.heap.size wr w2 := by rw [hw2]; exact HBP.out.alloc (by simp; omega) _
          have hk2 : Blk w2 wr.heap.size 47 #[.bool p.ng, .slice p.A p.ds.length p.c, .int .i64 p.m.1, .int .i64 p.m.2.1, .int .i64 p.m.2.2.1, .int .i64 p.m.2.2.2] := by rw [hw2]; exact HKP.out.alloc _
          have hbd2 : BL (wr.heap.size + 1) (wr.heap.size + 1) [] [] w2 := by rw [hw2]; exact HBD.out.alloc _
          have hz2 : wr.heap.size + 1 ≤ w2.heap.size := by rw [hw2]; simp
          clear hw2 c0 c1' c2 c3 c4 c5
          have HWS := Lib.hid (WS_any (wr.heap.size + 1) (wr.heap.size + 1) [] [] [45] w2 hbd2 (by simp) hz2)
          go_wp2_with fail
          refine HWS.out.mono ?_
          rintro e w3 ⟨rfl, hbd3, hwr3⟩
          have hk3 := hk2.below hwr3.1 (by omega)
          have hb3 := hb2.trans (hwr3.1.mono (by omega))
          have hz3 := Nat.le_trans hz2 hwr3.1.size
          rw [List.nil_append] at hbd3
          clear hwr3 hbd2 hk2 hb2 hz2
          have e0 : w3.cell? ⟨wr.heap.size, 0, none⟩ = some (.bool p.ng) := hk3.cell 0
          have e1 : w3.cell? ⟨wr.heap.size, 1, none⟩ = some (.slice p.A p.ds.length p.c) := hk3.cell 1
          have e2 : w3.cell? ⟨wr.heap.size, 2, none⟩ = some (.int .i64 p.m.1) := hk3.cell 2
          have e3 : w3.cell? ⟨wr.heap.size, 3, none⟩ = some (.int .i64 p.m.2.1) := hk3.cell 3
          have e4 : w3.cell? ⟨wr.heap.size, 4, none⟩ = some (.int .i64 p.m.2.2.1) := hk3.cell 4
          have e5 : w3.cell? ⟨wr.heap.size, 5, none⟩ = some (.int .i64 p.m.2.2.2) := hk3.cell 5
          have z3 : wr.heap.size < w3.heap.size := by omega
          have HW := Lib.hid (HWT.out (wr.heap.size + 1) _ w3 (by omega) hb3 hz3 hbd3.take (by simp [Lib.byteCells]))
          clear hbd3
          go_wp2_with fail
          refine HW.out.mono ?_
          rintro e w4 ⟨rfl, hbd4, hwr4⟩
          have hb4 := hb3.trans (hwr4.1.mono (by omega))
          have hz4 := Nat.le_trans hz3 hwr4.1.size
          have hbd4' := hbd4.put
          clear hwr4 hbd4 e0 e1 e2 e3 e4 e5 hk3 hb3 hz3 z3
          have HTE := Lib.hid (show ([45] : Bs) ++ termS ls (val p.ds) p.m = txt1 ls p.tm by rw [HTX.out, if_pos HNG.out])
          rw [HTE.out] at hbd4'
          generalize txt1 ls p.tm = tx at *
          have HBS := Lib.hid (Tryz.Builder_String_any_k (wr.heap.size + 1) (wr.heap.size + 1) tx w4 (by unfold BL at hbd4'; simpa using hbd4') hz4)
          clear hbd4'
          go_wp2_with fail
          refine HBS.out.mono ?_
          rintro e w5 ⟨rfl, -, hb5, -⟩
          have hb5' := hb4.trans (hb5.mono (by omega))
          have hown5 := own_after hown hb5'
          have hz5 := hb5'.size
          have hbl5 := hbl.trans (hb5'.mono hz)
          clear hb4 hb5 hown hb5' hz4
          have hown' := hown5.alloc (.cells #[.string ⟨tx.toArray⟩] 9)
          have h63 : k + 1 ≤ maxLen := by unfold maxLen; omega
          have hby : (k + 1) * 16 ≤ 140737488355328 := by omega
          have hbase : w1.heap.size ≤ (w5.alloc (.cells #[.string ⟨tx.toArray⟩] 9)).heap.size := by simp; omega
          go_wp2_with (at_builtin; refine wpList_append_any _ rfl (.tmp 35) (.tmp 37) _ rfl w1.heap.size 9 i0 _ 1 16 Tryz.underlying22 hi0 hz0 hz1 hz2 rfl (Nat.le_refl _) _ _ _ rfl hown' _ _ 1 1 _ rfl (Reads.one_new w5 (.string ⟨tx.toArray⟩) 9) (by intro u hu; simp at hu; subst hu; rfl) h63 hby hbase ?_; intro v3 w6 hown6 hg6 hat6; refine Hid.out ?_)
          refine Lib.hid ?_
          have hbl6 : Below w1.heap.size w1 w6 := (hbl5.alloc (Nat.le_trans hz hz5) _).grown hg6 hbase (fun k hk => (hown'.lt k hk).1)
          clear hown' hg6 hat6 hown5 hbl5
          go_wp2
          go_roundg (n - (k + 1))
          case rel =>
            refine ⟨k + 1, by omega, rfl, by go_num, ?_, hbl6⟩
            rw [HTK.out, HSN.out, List.map_append]
            exact hown6
          case measure => have := HGK.out; omega
        · have hsg := S2.out hneg
          have HNG := Lib.hid hneg
          clear S1 S2 hneg
          go_wp2_with fail
          refine (HSG.out _ HBP.out).mono ?_
          rintro e w2 ⟨rfl, hw2⟩
          have hb2 : Below wr.heap.size wr w2 := by rw [hw2]; exact HBP.out.alloc (by simp; omega) _
          have hk2 : Blk w2 wr.heap.size 47 #[.bool p.ng, .slice p.A p.ds.length p.c, .int .i64 p.m.1, .int .i64 p.m.2.1, .int .i64 p.m.2.2.1, .int .i64 p.m.2.2.2] := by rw [hw2]; exact HKP.out.alloc _
          have hbd2 : BL (wr.heap.size + 1) (wr.heap.size + 1) [] [] w2 := by rw [hw2]; exact HBD.out.alloc _
          have hz2 : wr.heap.size + 1 ≤ w2.heap.size := by rw [hw2]; simp
          clear hw2 c0 c1' c2 c3 c4 c5
          have hk3 := hk2
          have hb3 := hb2
          have hz3 := hz2
          have hbd3 := hbd2
          obtain ⟨w3, rfl⟩ : ∃ w3, w3 = w2 := ⟨_, rfl⟩
          clear hbd2 hk2 hb2 hz2
          have e0 : w3.cell? ⟨wr.heap.size, 0, none⟩ = some (.bool p.ng) := hk3.cell 0
          have e1 : w3.cell? ⟨wr.heap.size, 1, none⟩ = some (.slice p.A p.ds.length p.c) := hk3.cell 1
          have e2 : w3.cell? ⟨wr.heap.size, 2, none⟩ = some (.int .i64 p.m.1) := hk3.cell 2
          have e3 : w3.cell? ⟨wr.heap.size, 3, none⟩ = some (.int .i64 p.m.2.1) := hk3.cell 3
          have e4 : w3.cell? ⟨wr.heap.size, 4, none⟩ = some (.int .i64 p.m.2.2.1) := hk3.cell 4
          have e5 : w3.cell? ⟨wr.heap.size, 5, none⟩ = some (.int .i64 p.m.2.2.2) := hk3.cell 5
          have z3 : wr.heap.size < w3.heap.size := by omega
          have HW := Lib.hid (HWT.out (wr.heap.size + 1) _ w3 (by omega) hb3 hz3 hbd3.take (by simp [Lib.byteCells]))
          clear hbd3
          go_wp2_with fail
          refine HW.out.mono ?_
          rintro e w4 ⟨rfl, hbd4, hwr4⟩
          have hb4 := hb3.trans (hwr4.1.mono (by omega))
          have hz4 := Nat.le_trans hz3 hwr4.1.size
          have hbd4' := hbd4.put
          clear hwr4 hbd4 e0 e1 e2 e3 e4 e5 hk3 hb3 hz3 z3
          have HTE := Lib.hid (show ([] : Bs) ++ termS ls (val p.ds) p.m = txt1 ls p.tm by rw [HTX.out, if_neg (by have := HNG.out; omega)])
          rw [HTE.out] at hbd4'
          generalize txt1 ls p.tm = tx at *
          have HBS := Lib.hid (Tryz.Builder_String_any_k (wr.heap.size + 1) (wr.heap.size + 1) tx w4 (by unfold BL at hbd4'; simpa using hbd4') hz4)
          clear hbd4'
          go_wp2_with fail
          refine HBS.out.mono ?_
          rintro e w5 ⟨rfl, -, hb5, -⟩
          have hb5' := hb4.trans (hb5.mono (by omega))
          have hown5 := own_after hown hb5'
          have hz5 := hb5'.size
          have hbl5 := hbl.trans (hb5'.mono hz)
          clear hb4 hb5 hown hb5' hz4
          have hown' := hown5.alloc (.cells #[.string ⟨tx.toArray⟩] 9)
          have h63 : k + 1 ≤ maxLen := by unfold maxLen; omega
          have hby : (k + 1) * 16 ≤ 140737488355328 := by omega
          have hbase : w1.heap.size ≤ (w5.alloc (.cells #[.string ⟨tx.toArray⟩] 9)).heap.size := by simp; omega
          go_wp2_with (at_builtin; refine wpList_append_any _ rfl (.tmp 35) (.tmp 37) _ rfl w1.heap.size 9 i0 _ 1 16 Tryz.underlying22 hi0 hz0 hz1 hz2 rfl (Nat.le_refl _) _ _ _ rfl hown' _ _ 1 1 _ rfl (Reads.one_new w5 (.string ⟨tx.toArray⟩) 9) (by intro u hu; simp at hu; subst hu; rfl) h63 hby hbase ?_; intro v3 w6 hown6 hg6 hat6; refine Hid.out ?_)
          refine Lib.hid ?_
          have hbl6 : Below w1.heap.size w1 w6 := (hbl5.alloc (Nat.le_trans hz hz5) _).grown hg6 hbase (fun k hk => (hown'.lt k hk).1)
          clear hown' hg6 hat6 hown5 hbl5
          go_wp2
          go_roundg (n - (k + 1))
          case rel =>
            refine ⟨k + 1, by omega, rfl, by go_num, ?_, hbl6⟩
            rw [HTK.out, HSN.out, List.map_append]
            exact hown6
          case measure => have := HGK.out; omega
      · obtain rfl : k = n := by omega
        have hfull : (qs.take k).map PT.tm = qs.map PT.tm := by rw [← HQS.out, List.take_length]
        rw [hfull] at hown
        obtain ⟨A9, c9, rfl⟩ := own_slice hown
        have HOW := Lib.hid hown
        clear hown hfull
        go_wp2_with fail
        go_ret2
        have e9 : (qs.map PT.tm).length = k := by rw [List.length_map, HQS.out]
        refine ⟨.inr (.inr ⟨HF.out, qs.map PT.tm, HV.out.1, HV.out.2.1, HV.out.2.2.1, HV.out.2.2.2.1, HV.out.2.2.2.2, A9, c9, by rw [e9]; rfl, ?_⟩), HB1.out.trans (hbl.mono HB1.out.size)⟩
        rw [e9]
        exact ⟨HOW.out.1, HOW.out.2.imp id (fun ⟨g, cap, cur, h1, h2, h3⟩ => ⟨g, cap, cur, h1, Nat.le_trans HB1.out.size h2, h3⟩)⟩
end Go.Proofs.YtnghlhcekghciaaGreatDoor
