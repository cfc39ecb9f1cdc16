/- The reference's texts of the terms. -/
import Derived.Test.YtnghlhcekghciaaDoorXV
import Derived.Test.YtnghlhcekghciaaDoorXT
import Derived.Test.YtnghlhcekghciaaDoorXO
namespace Go.Proofs.YtnghlhcekghciaaDoor
open Go.RowKit Go.Sort

theorem vld_nn' {m : Mo} (h : vld m = true) : ∀ j, j < 4 → 0 ≤ gt m j := fun j hj => by
  unfold vld at h
  simp only [Bool.and_eq_true, decide_eq_true_eq] at h
  rcases (by omega : j = 0 ∨ j = 1 ∨ j = 2 ∨ j = 3) with rfl | rfl | rfl | rfl <;> simp only [gt] <;> omega
theorem lvOk_up {ls : List Bs} {m : Mo} (hv : vld m = true) (h : ∀ i, ls.length ≤ i → i < 4 → ¬ 0 < gt m i) : LvOk ls m ∧ lvM m ≤ (ls.length : Int) := by
  refine ⟨fun j hj hne => ?_, lvM_le h⟩
  rcases Nat.lt_or_ge j ls.length with h1 | h1
  · exact h1
  · have := h j h1 hj
    have := vld_nn' hv j hj
    omega
/-- what holds of each term of the canonical form -/
structure QOk (M : Nat) (q : PT) : Prop where
  dl : q.ds.length ≤ 600
  vl : vld q.m = true
  ex : ∀ j, j < 4 → 0 ≤ gt q.m j ∧ gt q.m j ≤ 4294967295
  dc : (Lib.decDigits (val q.ds)).length ≤ 6001
  sg : q.ng = decide (ival q.ng q.ds < 0)
theorem qok {w : World} {B N M : Nat} {E : Int} {A : Option Addr} {ps qs : List PT} (h : PIn w B A ps N E M) (hM : M < Big) (hE : E ≤ 4294967295) (hc : Canon (qs.map PT.tm)) (hf : ∀ m, cf (qs.map PT.tm) m = cf (ps.map PT.tm) m) (hq : ∀ q ∈ qs, Cn q ∧ WfM q.m ∧ q.ds.length ≤ 600) : ∀ q ∈ qs, QOk M q := fun q hm => by
  have ht : q.tm ∈ qs.map PT.tm := List.mem_map.2 ⟨q, hm, rfl⟩
  have hv : vld q.m = true := hc.vl _ ht
  refine ⟨(hq q hm).2.2, hv, fun j hj => ⟨vld_nn' hv j hj, ?_⟩, ?_, ?_⟩
  · obtain ⟨s, hs, hs1, hs2⟩ := hc.src hf ht
    obtain ⟨p, hp, rfl⟩ := List.mem_map.1 hs
    have hs2 : p.m = q.m := hs2
    have hb := h.mb p hp hs1
    rw [hs2] at hb
    unfold MB at hb
    rcases (by omega : j = 0 ∨ j = 1 ∨ j = 2 ∨ j = 3) with rfl | rfl | rfl | rfl <;> simp only [gt] <;> omega
  · have h1 : q.tm.1.natAbs ≤ nrm (qs.map PT.tm) := nrm_mem ht
    have h2 := hc.nrm_le hf
    have h3 := h.nm
    have h4 : q.tm.1.natAbs = val q.ds := ival_abs _ _
    exact decD_pw (by omega)
  · obtain ⟨z, hz⟩ := (hq q hm).1
    have e1 : q.tm = (z, q.m) := by rw [hz]; exact mkP_tm _ _ _ _
    have e2 : ival q.ng q.ds = z := congrArg Prod.fst e1
    rw [e2, hz]
    rfl
set_option maxHeartbeats 4000000 in
set_option maxRecDepth 100000 in
theorem RTerms_any (A A' : Option Addr) (c c' B N : Nat) (E : Int) (M : Nat) (ps : List PT) (ls : List Bs) (w : World) (hB : B ≤ w.heap.size) (h : PIn w B A ps N E M) (hN : N ≤ 10000) (hM : M < Big) (hE : E ≤ 4294967295) (hn : NIn w B A' c' ls) :
    Calls Tryd.prog 18 #[.slice A ps.length c, .slice A' ls.length c'] w (TermsRes21 (cf (ps.map PT.tm)) ls N w) := by
  obtain ⟨i0, hi0, hz0, hz1, hz2⟩ := info_parts Tryd.infoStr
  have HPI := Lib.hid h
  have HNI := Lib.hid hn
  have HNA := Lib.hid (RNames_any A' c' B ls w hn.rd hn.len hn.el)
  have HLN := Lib.hid hn.len
  have HPL := Lib.hid h.len
  clear h hn
  generalize hG : cf (ps.map PT.tm) = G at *
  have HG := Lib.hid hG
  clear hG
  go_enter Tryd.func18, Tryd.ntmps18
  go_wp2_with fail
  refine HNA.out.mono ?_
  rintro e w1 ⟨rfl, hdr⟩
  have hb1 := hdr.below w.heap.size
  have HB1 := Lib.hid hb1
  clear hdr
  cases hnb : namesB ls with
  | false =>
    have HF := Lib.hid hnb
    clear hnb hb1
    go_wp2_with fail
    go_ret2
    exact ⟨.inl ⟨HF.out, rfl⟩, HB1.out⟩
  | true =>
    have HF := Lib.hid hnb
    have hok := namesB_ok hnb
    have h4 := hok.1
    have HOK := Lib.hid (show NmOk ls from hok.2)
    have HNS := Lib.hid (show ∀ n ∈ ls, n.length ≤ 16 from fun n hn => (nameB_len (hok.2 n hn)).2)
    have HRC := Lib.hid (RCanon_any A c B N E M ps w1 (Nat.le_trans hB hb1.size) (HPI.out.below (hb1.mono hB)) hN hM)
    clear hnb hok hb1
    go_wp2_with fail
    refine HRC.out.mono ?_
    rintro e w2 ⟨⟨A1, c1, qs, rfl, hrow, hcan, hcf, hcn, hln⟩, hb2⟩
    have hbl2 := HB1.out.trans (hb2.mono HB1.out.size)
    have HQO := Lib.hid (qok HPI.out hM hE hcan hcf hcn)
    have HCAN := Lib.hid hcan
    rw [HG.out] at hcf
    have HCF := Lib.hid hcf
    have HPO := Lib.hid hrow.polyIn
    have HBL2 := Lib.hid hbl2
    have HQN := Lib.hid (Nat.le_trans hln HPL.out)
    have hq1 : qs.length ≤ 10000 := Nat.le_trans HQN.out hN
    have HRD := Lib.hid ((HNI.out.below (hbl2.mono hB)).rd)
    have hB2 : B ≤ w2.heap.size := Nat.le_trans hB hbl2.size
    have HNIL := Lib.hid (show w2.ownsRow w2.heap.size 9 1 (.slice none 0 0) 0 [] from ⟨rfl, .inl ⟨rfl, rfl⟩⟩)
    clear hrow hcan hcf hcn hln hb2 HRC
    generalize hql : qs.length = n at *
    have HQL := Lib.hid hql
    clear hql
    generalize hll : ls.length = m at *
    have HLL := Lib.hid hll
    clear hll
    go_wp2_with fail
    go_loopg [6, 8, 9, 10, 18] n (fun gn tv _ _ _ ix wr => ∃ k : Nat, k ≤ n ∧ gn = n - k ∧ ix = .int .i64 k ∧ wr.ownsRow w2.heap.size 9 1 tv k ((termsS ls ((qs.take k).map PT.tm)).map strV) ∧ (∀ t ∈ (qs.take k).map PT.tm, lvM t.2 ≤ (m : Int)) ∧ Below w2.heap.size w2 wr)
    case atStart => exact ⟨0, by omega, rfl, rfl, HNIL.out, by simp, Below.refl _ _⟩
    case round =>
      obtain ⟨k, hk, hgk, rfl, hown, hlv, hbl⟩ := hrel
      have HGK := Lib.hid hgk
      have HLV := Lib.hid hlv
      clear hgk hlv
      have hz := hbl.size
      by_cases hlt : k < n
      · obtain ⟨p, hp⟩ : ∃ p, qs[k]? = some p := ⟨_, List.getElem?_eq_getElem (by have := HQL.out; omega)⟩
        have hpm := List.mem_of_getElem? hp
        have hpo := HPO.out.below hbl
        obtain ⟨b1, o1, rfl, q1, c0, c1', c2, c3, c4, c5⟩ := hpo.at_ hp
        have HNT := Lib.hid ((hpo.nt p hpm).more hz)
        have hqo := HQO.out p hpm
        have HQP := Lib.hid hqo
        have i1 : (k : Int) < (n : Int) := by omega
        have i0' : (0 : Int) ≤ (k : Int) := by omega
        have l1 : b1 < wr.heap.size := by omega
        have HTK := Lib.hid (take_snoc_tm hp)
        have HSN := Lib.hid (termsS_snoc ls ((qs.take k).map PT.tm) p.tm)
        have HTX := Lib.hid (show txt1 ls p.tm = (if ival p.ng p.ds < 0 then [45] else []) ++ termS ls (val p.ds) p.m by
          unfold txt1
          rw [show p.tm.1 = ival p.ng p.ds from rfl, ival_abs]
          rfl)
        have HXL := Lib.hid (show (termS ls (val p.ds) p.m).length ≤ 6001 + 112 from termS_len HNS.out hqo.dc (fun j hj => by have := (hqo.ex j hj).2; omega))
        have dj : ∀ j, j < 4 → wr.cell? ⟨b1, o1 + k * 6 + 2 + j, none⟩ = some (.int .i64 (gt p.m j)) := fun j hj => by
          rcases (by omega : j = 0 ∨ j = 1 ∨ j = 2 ∨ j = 3) with rfl | rfl | rfl | rfl
          · exact c2
          · exact c3
          · exact c4
          · exact c5
        have DJ := Lib.hid dj
        have HLU := Lib.hid (fun h => @lvOk_up ls p.m hqo.vl h)
        rw [HLL.out] at HLU
        have HLO := Lib.hid (show ∀ j, m ≤ j → j < 4 → 0 < gt p.m j → (m : Int) < lvL (qs.map PT.tm) from fun j h1 h2 h3 => by
          have := lvM_over hqo.vl h1 h2 h3
          have h5 := lv_of (List.mem_map.2 ⟨p, hpm, rfl⟩ : p.tm ∈ qs.map PT.tm)
          have e : p.tm.2 = p.m := rfl
          rw [e] at h5
          omega)
        have HC0 := Lib.hid c0; have HC1 := Lib.hid c1'; have HC2 := Lib.hid c2; have HC3 := Lib.hid c3; have HC4 := Lib.hid c4; have HC5 := Lib.hid c5
        clear hp hpm hpo hqo dj c0 c1' c2 c3 c4 c5
        go_wp2_with fail
        go_loopg [9] (4 - m) (fun gn jv wx => ∃ j : Nat, m ≤ j ∧ j ≤ 4 ∧ gn = 4 - j ∧ jv = .int .i64 j ∧ (∀ i, m ≤ i → i < j → ¬ 0 < gt p.m i) ∧ wr = wx)
        case atStart => exact ⟨m, Nat.le_refl _, h4, rfl, rfl, fun i h1 h2 => by omega, rfl⟩
        case round =>
          obtain ⟨j, hmj, hj4, hgj, rfl, hnz, rfl⟩ := hrel
          have HGJ := Lib.hid hgj
          have HNZ := Lib.hid hnz
          clear hgj hnz
          by_cases hj : j < 4
          · have cj := DJ.out j hj
            have k1 : (j : Int) < 4 := by omega
            have k0 : (0 : Int) ≤ (j : Int) := by omega
            by_cases hg : 0 < gt p.m j
            · have HR := Lib.hid (HLO.out j hmj hj hg)
              have HBF := Lib.hid (HBL2.out.trans (hbl.mono HBL2.out.size))
              generalize gt p.m j = x at *
              clear hown
              go_wp2_with fail
              go_ret2
              exact ⟨.inr (.inl ⟨HF.out, ⟨_, HCAN.out, HCF.out, by rw [HLL.out]; exact HR.out⟩, rfl⟩), HBF.out⟩
            · have HNZ2 := Lib.hid (show ∀ i, m ≤ i → i < j + 1 → ¬ 0 < gt p.m i from fun i h1 h2 => by
                by_cases e : i = j
                · rw [e]; exact hg
                · exact HNZ.out i h1 (by omega))
              generalize hxg : gt p.m j = x at *
              clear hxg
              go_wp2_with fail
              go_roundg (4 - (j + 1))
              case rel => exact ⟨j + 1, by omega, by omega, rfl, by go_num, HNZ2.out, rfl⟩
              case measure => have := HGJ.out; omega
          · obtain rfl : j = 4 := by omega
            have HUP := Lib.hid (HLU.out (fun i h1 h2 => by have := HNZ.out i h1 h2; omega))
            have HLVN := Lib.hid (show ∀ t ∈ (qs.take (k + 1)).map PT.tm, lvM t.2 ≤ (m : Int) from fun t ht => by
              rw [HTK.out] at ht
              rcases List.mem_append.1 ht with ht | ht
              · exact HLV.out t ht
              · rw [List.mem_singleton] at ht; subst ht; exact HUP.out.2)
            have HRT := Lib.hid (RTerm_any wr.heap.size p A' c' ls wr (Nat.le_refl _) HNT.out (by have := HQP.out.dl; omega) (by rw [HLL.out]; exact ((HRD.out.below (hbl.mono hB2)).more (Nat.le_trans hB2 hz))) (by rw [HLL.out]; exact h4) HOK.out HQP.out.ex HUP.out.1)
            rw [HLL.out] at HRT
            simp only [PT.cells] at HRT
            have c0 := HC0.out; have c1' := HC1.out; have c2 := HC2.out; have c3 := HC3.out; have c4 := HC4.out; have c5 := HC5.out
            generalize hts : termS ls (val p.ds) p.m = ts at *
            have HTS := Lib.hid hts
            clear hts HLU HLO
            go_wp2_with fail
            refine HRT.out.mono ?_
            rintro e w3 ⟨rfl, hb3⟩
            replace c0 := (hb3.cell l1).trans c0
            have l3 := Nat.lt_of_lt_of_le l1 hb3.size
            have hown3 := own_after hown hb3
            have hbl3 := hbl.trans (hb3.mono hz)
            have hz3 := Nat.le_trans hz hb3.size
            clear c1' c2 c3 c4 c5 hown hb3 hbl
            have hxl := HXL.out
            have h63 : k + 1 ≤ maxLen := by unfold maxLen; omega
            have hby : (k + 1) * 16 ≤ 140737488355328 := by omega
            have hzw := Nat.le_trans HBL2.out.size hz3
            have hsg := HQP.out.sg
            obtain ⟨tx, htx⟩ : ∃ tx, tx = txt1 ls p.tm := ⟨_, rfl⟩
            have HTXE := Lib.hid htx
            rw [HTX.out] at htx
            cases hng : p.ng with
            | true =>
              rw [hng] at c0
              rw [hng] at hsg
              rw [if_pos (by rw [hng]; simpa using hsg.symm)] at htx
              have HTE := Lib.hid htx
              have ha : ∀ W, (Op.stringOp .add ⟨#[45]⟩ ⟨ts.toArray⟩).run Tryd.prog W = .ok (.string ⟨tx.toArray⟩) W := fun W => by rw [HTE.out]; exact run_addb [45] ts (by simp; omega) W
              clear htx hsg hng
              have hown' := hown3.alloc (.cells #[.string ⟨tx.toArray⟩] 9)
              have hbase : w2.heap.size ≤ (w3.alloc (.cells #[.string ⟨tx.toArray⟩] 9)).heap.size := by simp; omega
              go_wp2_with (at_builtin; refine wpList_append_any _ rfl (.tmp 49) (.tmp 51) _ rfl w2.heap.size 9 i0 _ 1 16 Tryd.underlying24 hi0 hz0 hz1 hz2 rfl (Nat.le_refl _) _ _ _ rfl hown' _ _ 1 1 _ rfl (Reads.one_new w3 (.string ⟨tx.toArray⟩) 9) (by intro u hu; simp at hu; subst hu; rfl) h63 hby hbase ?_; intro v3 w6 hown6 hg6 hat6; refine Hid.out ?_)
              refine Lib.hid ?_
              have hbl6 : Below w2.heap.size w2 w6 := (hbl3.alloc hz3 _).grown hg6 hbase (fun k hk => (hown'.lt k hk).1)
              clear hown' hg6 hat6 hown3 hbl3
              go_wp2_with fail
              go_roundg (n - (k + 1))
              case rel =>
                refine ⟨k + 1, by omega, rfl, by go_num, ?_, HLVN.out, hbl6⟩
                rw [HTK.out, HSN.out, List.map_append, ← HTXE.out]
                exact hown6
              case measure => have := HGK.out; omega
            | false =>
              rw [hng] at c0
              rw [hng] at hsg
              rw [if_neg (by rw [hng]; simpa using hsg.symm), List.nil_append] at htx
              subst htx
              clear hsg hng
              have hown' := hown3.alloc (.cells #[.string ⟨tx.toArray⟩] 9)
              have hbase : w2.heap.size ≤ (w3.alloc (.cells #[.string ⟨tx.toArray⟩] 9)).heap.size := by simp; omega
              go_wp2_with (at_builtin; refine wpList_append_any _ rfl (.tmp 49) (.tmp 51) _ rfl w2.heap.size 9 i0 _ 1 16 Tryd.underlying24 hi0 hz0 hz1 hz2 rfl (Nat.le_refl _) _ _ _ rfl hown' _ _ 1 1 _ rfl (Reads.one_new w3 (.string ⟨tx.toArray⟩) 9) (by intro u hu; simp at hu; subst hu; rfl) h63 hby hbase ?_; intro v3 w6 hown6 hg6 hat6; refine Hid.out ?_)
              refine Lib.hid ?_
              have hbl6 : Below w2.heap.size w2 w6 := (hbl3.alloc hz3 _).grown hg6 hbase (fun k hk => (hown'.lt k hk).1)
              clear hown' hg6 hat6 hown3 hbl3
              go_wp2_with fail
              go_roundg (n - (k + 1))
              case rel =>
                refine ⟨k + 1, by omega, rfl, by go_num, ?_, HLVN.out, hbl6⟩
                rw [HTK.out, HSN.out, List.map_append, ← HTXE.out]
                exact hown6
              case measure => have := HGK.out; omega
      · obtain rfl : k = n := by omega
        have HTA := Lib.hid (show qs.take k = qs from List.take_of_length_le (by rw [HQL.out]; exact Nat.le_refl _))
        rw [HTA.out] at hown HLV
        obtain ⟨At, ct, rfl⟩ := own_slice hown
        have HOWN := Lib.hid hown
        have HBF := Lib.hid (HBL2.out.trans (hbl.mono HBL2.out.size))
        clear hown hbl
        go_wp2_with fail
        go_ret2
        refine ⟨.inr (.inr ⟨HF.out, qs.map PT.tm, HCAN.out, HCF.out, by rw [HLL.out]; exact lvL_le HLV.out, by rw [List.length_map, HQL.out]; exact HQN.out, fun t ht => ?_, At, ct, by rw [List.length_map, HQL.out]; rfl, by rw [List.length_map, HQL.out]; exact own_mono HOWN.out HBL2.out.size⟩), HBF.out⟩
        obtain ⟨s, hs, rfl⟩ := List.mem_map.1 ht
        obtain ⟨p, hp, rfl⟩ := List.mem_map.1 hs
        have hqo := HQO.out p hp
        have h1 := termS_len (ns := ls) HNS.out hqo.dc (m := p.m) (fun j hj => by have := (hqo.ex j hj).2; omega)
        rw [List.length_append]
        have e1 : p.tm.1.natAbs = val p.ds := ival_abs _ _
        have e2 : p.tm.2 = p.m := rfl
        rw [e1, e2]
        split <;> simp <;> omega
end Go.Proofs.YtnghlhcekghciaaDoor
