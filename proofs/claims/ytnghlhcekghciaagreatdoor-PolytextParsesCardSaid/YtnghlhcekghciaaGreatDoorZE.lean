/- The reference's Parse. -/
import Derived.Test.YtnghlhcekghciaaGreatDoorYF
import Derived.Test.YtnghlhcekghciaaGreatDoorZS
import Derived.Test.YtnghlhcekghciaaGreatDoorZC
namespace Go.Proofs.YtnghlhcekghciaaGreatDoor
open Go.RowKit

/-! ### what it reads -/
def minus0 (i : Nat) (w : Bs) : Bool := decide (i = 0) && (w.head? == some 45)
def wneg (i : Nat) (ng : Bool) (w : Bs) : Bool := if minus0 i w then true else ng
def wtxt (i : Nat) (w : Bs) : Bs := if minus0 i w then w.drop 1 else w
def sgnd (ng : Bool) (x : Nat) : Int := if ng then -(x : Int) else (x : Int)
def rwGo (ls : List Bs) : Nat → Bool → List Bs → List Tm → Option (List Tm)
  | _, _, [], acc => some acc
  | i, ng, w :: ws, acc =>
    if i % 2 = 1 then rwGo ls (i + 1) (w == [45]) ws acc
    else match rRead ls (wtxt i w) with
      | none => none
      | some (x, m) => rwGo ls (i + 1) (wneg i ng w) ws (acc ++ [(sgnd (wneg i ng w) x, m)])
def rwR (ls : List Bs) (s : Bs) : Option (List Tm) := rwGo ls 0 false (spl 32 s) []
def rP (ng : Bool) (x : Nat) (A : Option Addr) (c : Nat) (m : Mo) : PT := ⟨ng, dig x, A, c, m⟩
theorem rP_tm (ng : Bool) (x : Nat) (A : Option Addr) (c : Nat) (m : Mo) : (rP ng x A c m).tm = (sgnd ng x, m) := by simp [rP, PT.tm, ival, sgnd, val_dig]
/-- a term that was read: its magnitude has no leading zeros -/
def RQd (q : PT) : Prop := q.ds = dig q.tm.1.natAbs
theorem rP_rqd (ng : Bool) (x : Nat) (A : Option Addr) (c : Nat) (m : Mo) : RQd (rP ng x A c m) := by
  unfold RQd
  rw [rP_tm]
  simp only [rP, sgnd]
  cases ng <;> simp
def RBnd (ts : List Tm) : Prop := ts.length ≤ 1000 ∧ ∀ t ∈ ts, t.1.natAbs < pw 112 ∧ ∀ j, j < 4 → 0 ≤ gt t.2 j ∧ gt t.2 j ≤ 1073741824
theorem rqd_in {w : World} {base c : Nat} {A : Option Addr} {qs : List PT} (h : PRow w base (.slice A qs.length c) qs) (hq : ∀ q ∈ qs, RQd q) (hb : RBnd (qs.map PT.tm)) : PIn w w.heap.size A qs 1000 1073741824 (pw 113) where
  pin := h.polyIn
  dl q hm := by
    rw [hq q hm]
    have := dig_len_pw (hb.2 q.tm (List.mem_map.2 ⟨q, hm, rfl⟩)).1
    omega
  wf q hm := by
    have e := (hb.2 q.tm (List.mem_map.2 ⟨q, hm, rfl⟩)).2
    have e0 := e 0 (by omega); have e1 := e 1 (by omega); have e2 := e 2 (by omega); have e3 := e 3 (by omega)
    rw [show q.tm.2 = q.m from rfl] at e0 e1 e2 e3
    simp only [gt] at e0 e1 e2 e3
    unfold WfM WfI
    omega
  mb q hm _ := by
    have e := (hb.2 q.tm (List.mem_map.2 ⟨q, hm, rfl⟩)).2
    have e0 := e 0 (by omega); have e1 := e 1 (by omega); have e2 := e 2 (by omega); have e3 := e 3 (by omega)
    rw [show q.tm.2 = q.m from rfl] at e0 e1 e2 e3
    simp only [gt] at e0 e1 e2 e3
    unfold MB
    omega
  len := by have := hb.1; rwa [List.length_map] at this
  nm := by
    have key : ∀ rs : List PT, (∀ q ∈ rs, q.tm.1.natAbs < pw 112) → nrm (rs.map PT.tm) ≤ rs.length * pw 112 := by
      intro rs
      induction rs with
      | nil => intro _; simp [nrm]
      | cons q rs ih =>
        intro hh
        have h1 := ih fun p hp => hh p (List.mem_cons_of_mem _ hp)
        have h2 := hh q (by simp)
        simp only [List.map_cons, nrm, List.length_cons, Nat.add_mul]
        omega
    have h1 := key qs fun q hm => (hb.2 q.tm (List.mem_map.2 ⟨q, hm, rfl⟩)).1
    have hl := hb.1
    rw [List.length_map] at hl
    have h2 : qs.length * pw 112 ≤ pw 1 * pw 112 := Nat.mul_le_mul_right _ (by unfold pw; omega)
    rw [pw_mul] at h2
    exact Nat.le_trans h1 h2
def RPRes (ls : List Bs) (s : Bs) (w : World) (e : Ending) (w' : World) : Prop :=
  ((namesB ls = false ∧ e = .returned (.tuple #[.slice none 0 0, .int .i64 1])) ∨
    (namesB ls = true ∧ (∀ ts, rwR ls s = some ts → ∀ P, Canon P → (∀ m, cf P m = cf ts m) → lvL P ≤ (ls.length : Int) → fmtS ls P ≠ s) ∧ e = .returned (.tuple #[.slice none 0 0, .int .i64 6])) ∨
    (namesB ls = true ∧ ∃ ts A c qs, rwR ls s = some ts ∧ lvL (qs.map PT.tm) ≤ (ls.length : Int) ∧ fmtS ls (qs.map PT.tm) = s ∧ e = .returned (.tuple #[.slice A qs.length c, .int .i64 0]) ∧ PRow w' w.heap.size (.slice A qs.length c) qs ∧ Canon (qs.map PT.tm) ∧ (∀ m, cf (qs.map PT.tm) m = cf ts m) ∧ (∀ q ∈ qs, Cn q ∧ WfM q.m ∧ q.ds.length ≤ 600) ∧ qs.length ≤ 1000)) ∧ Below w.heap.size w w'

set_option maxHeartbeats 4000000 in
set_option maxRecDepth 100000 in
theorem RParse_any (s : Bs) (A : Option Addr) (c B : Nat) (ls : List Bs) (w : World) (hs : s.length ≤ 100000) (hbd : namesB ls = true → ∀ ts, rwR ls s = some ts → RBnd ts) (hB : B ≤ w.heap.size) (hn : NIn w B A c ls) :
    Calls Tryz.prog 9 #[.string ⟨s.toArray⟩, .slice A ls.length c] w (RPRes ls s w) := by
  obtain ⟨i0, hi0, hz0, hz1, hz2⟩ := info_parts Tryz.infoTerm
  have HNA := Lib.hid (RNames_any A c B ls w hn.rd hn.len hn.el)
  have HNI := Lib.hid hn
  have HBD := Lib.hid hbd
  have HSP := Lib.hid (fun (W : World) => RSplit_any s 32 W hs)
  have HPE := Lib.hid (show ∀ p ∈ spl 32 s, p.length ≤ s.length by rw [spl_parts]; exact partsS_el 32 s)
  have HPF := Lib.hid (show (spl 32 s).length ≤ 100001 by rw [spl_parts]; have := partsS_few 32 s; omega)
  have HRO := Lib.hid (show rwR ls s = rwGo ls 0 false ((spl 32 s).drop 0) [] from rfl)
  clear hn hbd
  unfold RPRes
  generalize rwR ls s = ro at *
  generalize spl 32 s = P at *
  go_enter Tryz.func9, Tryz.ntmps9
  go_wp2_with fail
  refine HNA.out.mono ?_
  rintro e w1 ⟨rfl, hdr⟩
  have hb1 := hdr.below w.heap.size
  clear hdr
  cases hnb : namesB ls with
  | false =>
    have HF := Lib.hid hnb
    clear hnb
    go_wp2_with fail
    go_ret2
    exact ⟨.inl ⟨HF.out, rfl⟩, hb1⟩
  | true =>
    have HF := Lib.hid hnb
    have hok := namesB_ok hnb
    have HRE := Lib.hid (fun (W : World) (hW : Below w.heap.size w W) (t : Bs) (ht : t.length ≤ 100000) => RRead_any t A c B ls W ht (Nat.le_trans hB hW.size) (HNI.out.rd.below (hW.mono hB)) hok.1)
    clear hnb hok HNA
    go_wp2_with fail
    refine (HSP.out _).mono ?_
    rintro e w2 ⟨Ap, cp, rfl, hown, hb2⟩
    have hb2' := hb1.trans (hb2.mono hb1.size)
    have HRD := Lib.hid (Reads.of_own hown)
    have hpf := HPF.out
    have HB2 := Lib.hid hb2'
    clear hown hb1 hb2 HSP hb2'
    go_wp2_with fail
    go_loopg [6, 7, 9, 10, 11, 12, 22] P.length (fun gn lv nv _ _ _ _ iv wr => ∃ (k : Nat) (ng : Bool) (qs : List PT), k ≤ P.length ∧ gn = P.length - k ∧ iv = .int .i64 k ∧ nv = .bool ng ∧ qs.length ≤ k ∧ ro = rwGo ls k ng (P.drop k) (qs.map PT.tm) ∧ (∀ q ∈ qs, RQd q) ∧ PRow wr w2.heap.size lv qs ∧ Below w2.heap.size w2 wr)
    case atStart => exact ⟨0, false, [], Nat.zero_le _, rfl, rfl, rfl, Nat.le_refl _, HRO.out, by simp, PRow.nil _ _, Below.refl _ _⟩
    case round =>
      clear HRO
      obtain ⟨k, ng, qs, hk, hgk, rfl, rfl, hql, hro, hq, hrow, hbl⟩ := hrel
      have HG := Lib.hid hgk; have HRO := Lib.hid hro; have HQ := Lib.hid hq
      clear hgk hro hq
      obtain ⟨Aq, cq, rfl⟩ := own_slice6 hrow.row
      by_cases hlt : k < P.length
      · rw [show P.drop k = P.getD k [] :: P.drop (k + 1) by
          rw [List.drop_eq_getElem_cons hlt, List.getD_eq_getElem?_getD, List.getElem?_eq_getElem hlt]
          rfl, rwGo] at HRO
        have hpl : (P.getD k []).length ≤ s.length := HPE.out _ (by
          rw [List.getD_eq_getElem?_getD, List.getElem?_eq_getElem hlt]
          exact List.getElem_mem _)
        obtain ⟨b, q, rfl, hb, c0⟩ := strs_at (HRD.out.below hbl) hlt
        have i1 : (k : Int) < (P.length : Int) := by omega
        have i0' : (0 : Int) ≤ (k : Int) := by omega
        generalize P.getD k [] = pt at *
        by_cases hodd : k % 2 = 1
        · rw [if_pos hodd] at HRO
          have hod : ((k : Int) % 2 == 1) = true := by simp; omega
          have hbs := bs_list pt
          have HBS := Lib.hid hbs
          generalize (⟨pt.toArray⟩ : ByteArray) = sp at *
          clear hbs
          cases hcm : pt == [45] with
          | false =>
            rw [hcm] at HRO
            have hss : (sp.toList == [45]) = false := by rw [HBS.out]; exact hcm
            clear hcm hodd
            go_wp2_with fail
            go_roundg (P.length - (k + 1))
            case rel => exact ⟨k + 1, false, qs, by omega, rfl, by go_num, rfl, by omega, HRO.out, HQ.out, hrow, hbl⟩
            case measure => have := HG.out; omega
          | true =>
            rw [hcm] at HRO
            have hss : (sp.toList == [45]) = true := by rw [HBS.out]; exact hcm
            clear hcm hodd
            go_wp2_with fail
            go_roundg (P.length - (k + 1))
            case rel => exact ⟨k + 1, true, qs, by omega, rfl, by go_num, rfl, by omega, HRO.out, HQ.out, hrow, hbl⟩
            case measure => have := HG.out; omega
        · rw [if_neg hodd] at HRO
          have hod : ((k : Int) % 2 == 1) = false := by simp; omega
          by_cases hm0 : minus0 k pt = true
          · obtain ⟨hk0, rest, rfl⟩ : k = 0 ∧ ∃ rest, pt = 45 :: rest := by
              unfold minus0 at hm0
              cases pt with
              | nil => simp at hm0
              | cons c rest => simp at hm0; exact ⟨hm0.1, rest, by rw [hm0.2]⟩
            rw [show wneg k ng (45 :: rest) = true by unfold wneg; rw [if_pos hm0], show wtxt k (45 :: rest) = rest by unfold wtxt; rw [if_pos hm0]; rfl] at HRO
            have HTL := Lib.hid (show rest.length ≤ 100000 by simp at hpl; omega)
            have hix : ∀ W, (Instr.index 9 (.string ⟨(45 :: rest).toArray⟩) (.int .i64 0)).run Tryz.prog W = .ok (.int .u8 45) W := fun W => Tryz.str_at (45 :: rest) 0 (by simp) W
            have hsd : ∀ W, (Instr.slice 9 (.string ⟨(45 :: rest).toArray⟩) (some (.int .i64 1)) none none).run Tryz.prog W = .ok (.string ⟨rest.toArray⟩) W := fun W => Tryz.str_drop (45 :: rest) 1 (by simp) W
            have hl0 : (0 : Int) < ((45 :: rest : Bs).length : Int) := by simp
            have k00 : ((k : Int) == 0) = true := by simp; omega
            generalize (45 :: rest : Bs) = wd at *
            clear hm0 hodd hk0
            have hb' := HB2.out.trans (hbl.mono HB2.out.size)
            have HRR := Lib.hid (HRE.out wr hb' rest (by have := HTL.out; omega))
            clear hb'
            generalize rRead ls rest = rr at *
            go_wp2_with fail
            refine HRR.out.mono ?_
            rintro e w3 ⟨hr, hb3⟩
            have hbl3 := hbl.trans (hb3.mono hbl.size)
            have hrow3 := hrow.old hb3
            clear hbl hrow hb3 c0
            rcases hr with ⟨hr0, A3, n3, c3, m, rfl⟩ | ⟨x, m, hr0, A3, c3, rfl, hcc, hnk⟩
            · have HN := Lib.hid (show ro = none by rw [HRO.out, hr0])
              have hbl4 := hbl3.alloc hbl3.size (.cells (cellsT false A3 n3 c3 m) 47)
              have HB4 := Lib.hid (HB2.out.trans (hbl4.mono HB2.out.size))
              clear hr0 HRO hrow3 hbl3 hbl4
              unfold cellsT at HB4 ⊢
              go_wp2_with fail
              go_ret2
              exact ⟨.inr (.inl ⟨HF.out, fun ts hts => (by rw [HN.out] at hts; cases hts), rfl⟩), HB4.out⟩
            · have HN := Lib.hid (show ro = rwGo ls (k + 1) true (P.drop (k + 1)) (qs.map PT.tm ++ [(sgnd true x, m)]) by rw [HRO.out, hr0])
              have HTM := Lib.hid (show (qs ++ [rP true x A3 c3 m]).map PT.tm = qs.map PT.tm ++ [(sgnd true x, m)] by rw [List.map_append, List.map_singleton, rP_tm])
              clear hr0 HRO
              have hba := (Below.refl w3.heap.size w3).alloc (Nat.le_refl _) (.cells (rP true x A3 c3 m).cells.toArray 47)
              have hrow4 := hrow3.old hba
              have hbl4 := hbl3.trans (hba.mono hbl3.size)
              have hba2 := (Below.refl _ (w3.alloc (.cells (rP true x A3 c3 m).cells.toArray 47))).alloc (Nat.le_refl _) (.cells (rP true x A3 c3 m).cells.toArray 47)
              have hrow5 := hrow4.old hba2
              have hbl5 := hbl4.trans (hba2.mono hbl4.size)
              have hnk5 := (hnk.old hba).old hba2
              have hrd := Reads.six_new (w3.alloc (.cells (rP true x A3 c3 m).cells.toArray 47)) (rP true x A3 c3 m).cells rfl 47
              rw [show (w3.alloc (.cells (rP true x A3 c3 m).cells.toArray 47)).heap.size = w3.heap.size + 1 by simp] at hrd
              have hone := cells_one [rP true x A3 c3 m]
              have h63 : qs.length + 1 ≤ maxLen := by unfold maxLen; omega
              have hby : (qs.length + 1) * 64 ≤ 140737488355328 := by omega
              have hbX := hbl5.size
              have HHB := Lib.hid hba
              clear hrow3 hbl3 hrow4 hbl4 hba2 hnk hba
              simp only [PT.cells, rP] at hrd hrow5 hbl5 hnk5 hbX
              unfold cellsT
              go_wp2_with (at_builtin; refine wpList_append_any _ rfl (.tmp 59) (.tmp 61) 26 rfl w2.heap.size 47 i0 _ 6 64 Tryz.underlying26 hi0 hz0 hz1 hz2 rfl (by decide) (.slice Aq qs.length cq) qs.length (qs.flatMap PT.cells) rfl hrow5.row (w3.heap.size + 1 + 1) (some ⟨w3.heap.size + 1, 0, none⟩) 1 1 _ rfl hrd (by simpa [PT.cells, rP] using hone) h63 hby hbX ?_; intro v5 w5 hown5 hg5 hat5; refine Hid.out ?_)
              refine Lib.hid ?_
              have hrow6 := hrow5.snoc (p := rP true x A3 c3 m) ⟨hnk5, dig_dig _, hcc⟩ (by simpa [PT.cells, rP] using hown5) hg5
              have hbl6 := hbl5.grown hg5 hbX (fun k hk => (hrow5.row.lt k hk).1)
              have HQ5 := Lib.hid (show ∀ q ∈ qs ++ [rP true x A3 c3 m], RQd q from fun q hq => by
                rcases List.mem_append.1 hq with hq | hq
                · exact HQ.out q hq
                · rw [List.mem_singleton] at hq; subst hq; exact rP_rqd _ _ _ _ _)
              clear hown5 hg5 hat5 hrow5 hbl5 hnk5 hrd hone hbX
              rw [← HTM.out] at HN
              go_wp2_with fail
              go_roundg (P.length - (k + 1))
              case rel => exact ⟨k + 1, true, qs ++ [rP true x A3 c3 m], by omega, rfl, by go_num, rfl, by rw [List.length_append, List.length_singleton]; omega, HN.out, HQ5.out, hrow6, hbl6⟩
              case measure => have := HG.out; omega
          · rw [show wneg k ng pt = ng by unfold wneg; rw [if_neg hm0], show wtxt k pt = pt by unfold wtxt; rw [if_neg hm0]] at HRO
            have HTL := Lib.hid (show pt.length ≤ 100000 by omega)
            clear hodd
            by_cases hk0 : k = 0
            · have k00 : ((k : Int) == 0) = true := by simp; omega
              have HMH := Lib.hid (show ∀ c r, pt = c :: r → c ≠ 45 from fun c r h e => by
                subst h; subst e
                apply hm0
                unfold minus0
                simp [hk0])
              cases hpt : pt with
              | nil =>
                subst hpt
                clear hm0 hk0
                have hl0 : (([] : Bs).length : Int) = 0 := rfl
                have hb' := HB2.out.trans (hbl.mono HB2.out.size)
                have HRR := Lib.hid (HRE.out wr hb' ([] : Bs) (by have := HTL.out; omega))
                clear hb'
                generalize rRead ls ([] : Bs) = rr at *
                go_wp2_with fail
                refine HRR.out.mono ?_
                rintro e w3 ⟨hr, hb3⟩
                have hbl3 := hbl.trans (hb3.mono hbl.size)
                have hrow3 := hrow.old hb3
                clear hbl hrow hb3 c0
                rcases hr with ⟨hr0, A3, n3, c3, m, rfl⟩ | ⟨x, m, hr0, A3, c3, rfl, hcc, hnk⟩
                · have HN := Lib.hid (show ro = none by rw [HRO.out, hr0])
                  have hbl4 := hbl3.alloc hbl3.size (.cells (cellsT false A3 n3 c3 m) 47)
                  have HB4 := Lib.hid (HB2.out.trans (hbl4.mono HB2.out.size))
                  clear hr0 HRO hrow3 hbl3 hbl4
                  unfold cellsT at HB4 ⊢
                  go_wp2_with fail
                  go_ret2
                  exact ⟨.inr (.inl ⟨HF.out, fun ts hts => (by rw [HN.out] at hts; cases hts), rfl⟩), HB4.out⟩
                · have HN := Lib.hid (show ro = rwGo ls (k + 1) ng (P.drop (k + 1)) (qs.map PT.tm ++ [(sgnd ng x, m)]) by rw [HRO.out, hr0])
                  have HTM := Lib.hid (show (qs ++ [rP ng x A3 c3 m]).map PT.tm = qs.map PT.tm ++ [(sgnd ng x, m)] by rw [List.map_append, List.map_singleton, rP_tm])
                  clear hr0 HRO
                  have hba := (Below.refl w3.heap.size w3).alloc (Nat.le_refl _) (.cells (rP ng x A3 c3 m).cells.toArray 47)
                  have hrow4 := hrow3.old hba
                  have hbl4 := hbl3.trans (hba.mono hbl3.size)
                  have hba2 := (Below.refl _ (w3.alloc (.cells (rP ng x A3 c3 m).cells.toArray 47))).alloc (Nat.le_refl _) (.cells (rP ng x A3 c3 m).cells.toArray 47)
                  have hrow5 := hrow4.old hba2
                  have hbl5 := hbl4.trans (hba2.mono hbl4.size)
                  have hnk5 := (hnk.old hba).old hba2
                  have hrd := Reads.six_new (w3.alloc (.cells (rP ng x A3 c3 m).cells.toArray 47)) (rP ng x A3 c3 m).cells rfl 47
                  rw [show (w3.alloc (.cells (rP ng x A3 c3 m).cells.toArray 47)).heap.size = w3.heap.size + 1 by simp] at hrd
                  have hone := cells_one [rP ng x A3 c3 m]
                  have h63 : qs.length + 1 ≤ maxLen := by unfold maxLen; omega
                  have hby : (qs.length + 1) * 64 ≤ 140737488355328 := by omega
                  have hbX := hbl5.size
                  have HHB := Lib.hid hba
                  clear hrow3 hbl3 hrow4 hbl4 hba2 hnk hba
                  simp only [PT.cells, rP] at hrd hrow5 hbl5 hnk5 hbX
                  unfold cellsT
                  go_wp2_with (at_builtin; refine wpList_append_any _ rfl (.tmp 59) (.tmp 61) 26 rfl w2.heap.size 47 i0 _ 6 64 Tryz.underlying26 hi0 hz0 hz1 hz2 rfl (by decide) (.slice Aq qs.length cq) qs.length (qs.flatMap PT.cells) rfl hrow5.row (w3.heap.size + 1 + 1) (some ⟨w3.heap.size + 1, 0, none⟩) 1 1 _ rfl hrd (by simpa [PT.cells, rP] using hone) h63 hby hbX ?_; intro v5 w5 hown5 hg5 hat5; refine Hid.out ?_)
                  refine Lib.hid ?_
                  have hrow6 := hrow5.snoc (p := rP ng x A3 c3 m) ⟨hnk5, dig_dig _, hcc⟩ (by simpa [PT.cells, rP] using hown5) hg5
                  have hbl6 := hbl5.grown hg5 hbX (fun k hk => (hrow5.row.lt k hk).1)
                  have HQ5 := Lib.hid (show ∀ q ∈ qs ++ [rP ng x A3 c3 m], RQd q from fun q hq => by
                    rcases List.mem_append.1 hq with hq | hq
                    · exact HQ.out q hq
                    · rw [List.mem_singleton] at hq; subst hq; exact rP_rqd _ _ _ _ _)
                  clear hown5 hg5 hat5 hrow5 hbl5 hnk5 hrd hone hbX
                  rw [← HTM.out] at HN
                  go_wp2_with fail
                  go_roundg (P.length - (k + 1))
                  case rel => exact ⟨k + 1, ng, qs ++ [rP ng x A3 c3 m], by omega, rfl, by go_num, rfl, by rw [List.length_append, List.length_singleton]; omega, HN.out, HQ5.out, hrow6, hbl6⟩
                  case measure => have := HG.out; omega
              | cons c1 r1 =>
                have hc45 := HMH.out c1 r1 hpt
                have hix : ∀ W, (Instr.index 9 (.string ⟨pt.toArray⟩) (.int .i64 0)).run Tryz.prog W = .ok (.int .u8 (c1.toNat : Int)) W := fun W => by
                  rw [hpt]
                  exact Tryz.str_at (c1 :: r1) 0 (by simp) W
                have hl0 : (0 : Int) < (pt.length : Int) := by rw [hpt]; simp
                have hne : ((c1.toNat : Int) == 45) = false := by
                  simp only [beq_eq_false_iff_ne, ne_eq]
                  intro e
                  exact hc45 (UInt8.toNat_inj.1 (by have : (45 : UInt8).toNat = 45 := rfl; omega))
                generalize c1.toNat = cn at *
                clear hm0 hk0 hpt hc45
                have hb' := HB2.out.trans (hbl.mono HB2.out.size)
                have HRR := Lib.hid (HRE.out wr hb' pt (by have := HTL.out; omega))
                clear hb'
                generalize rRead ls pt = rr at *
                go_wp2_with fail
                refine HRR.out.mono ?_
                rintro e w3 ⟨hr, hb3⟩
                have hbl3 := hbl.trans (hb3.mono hbl.size)
                have hrow3 := hrow.old hb3
                clear hbl hrow hb3 c0
                rcases hr with ⟨hr0, A3, n3, c3, m, rfl⟩ | ⟨x, m, hr0, A3, c3, rfl, hcc, hnk⟩
                · have HN := Lib.hid (show ro = none by rw [HRO.out, hr0])
                  have hbl4 := hbl3.alloc hbl3.size (.cells (cellsT false A3 n3 c3 m) 47)
                  have HB4 := Lib.hid (HB2.out.trans (hbl4.mono HB2.out.size))
                  clear hr0 HRO hrow3 hbl3 hbl4
                  unfold cellsT at HB4 ⊢
                  go_wp2_with fail
                  go_ret2
                  exact ⟨.inr (.inl ⟨HF.out, fun ts hts => (by rw [HN.out] at hts; cases hts), rfl⟩), HB4.out⟩
                · have HN := Lib.hid (show ro = rwGo ls (k + 1) ng (P.drop (k + 1)) (qs.map PT.tm ++ [(sgnd ng x, m)]) by rw [HRO.out, hr0])
                  have HTM := Lib.hid (show (qs ++ [rP ng x A3 c3 m]).map PT.tm = qs.map PT.tm ++ [(sgnd ng x, m)] by rw [List.map_append, List.map_singleton, rP_tm])
                  clear hr0 HRO
                  have hba := (Below.refl w3.heap.size w3).alloc (Nat.le_refl _) (.cells (rP ng x A3 c3 m).cells.toArray 47)
                  have hrow4 := hrow3.old hba
                  have hbl4 := hbl3.trans (hba.mono hbl3.size)
                  have hba2 := (Below.refl _ (w3.alloc (.cells (rP ng x A3 c3 m).cells.toArray 47))).alloc (Nat.le_refl _) (.cells (rP ng x A3 c3 m).cells.toArray 47)
                  have hrow5 := hrow4.old hba2
                  have hbl5 := hbl4.trans (hba2.mono hbl4.size)
                  have hnk5 := (hnk.old hba).old hba2
                  have hrd := Reads.six_new (w3.alloc (.cells (rP ng x A3 c3 m).cells.toArray 47)) (rP ng x A3 c3 m).cells rfl 47
                  rw [show (w3.alloc (.cells (rP ng x A3 c3 m).cells.toArray 47)).heap.size = w3.heap.size + 1 by simp] at hrd
                  have hone := cells_one [rP ng x A3 c3 m]
                  have h63 : qs.length + 1 ≤ maxLen := by unfold maxLen; omega
                  have hby : (qs.length + 1) * 64 ≤ 140737488355328 := by omega
                  have hbX := hbl5.size
                  have HHB := Lib.hid hba
                  clear hrow3 hbl3 hrow4 hbl4 hba2 hnk hba
                  simp only [PT.cells, rP] at hrd hrow5 hbl5 hnk5 hbX
                  unfold cellsT
                  go_wp2_with (at_builtin; refine wpList_append_any _ rfl (.tmp 59) (.tmp 61) 26 rfl w2.heap.size 47 i0 _ 6 64 Tryz.underlying26 hi0 hz0 hz1 hz2 rfl (by decide) (.slice Aq qs.length cq) qs.length (qs.flatMap PT.cells) rfl hrow5.row (w3.heap.size + 1 + 1) (some ⟨w3.heap.size + 1, 0, none⟩) 1 1 _ rfl hrd (by simpa [PT.cells, rP] using hone) h63 hby hbX ?_; intro v5 w5 hown5 hg5 hat5; refine Hid.out ?_)
                  refine Lib.hid ?_
                  have hrow6 := hrow5.snoc (p := rP ng x A3 c3 m) ⟨hnk5, dig_dig _, hcc⟩ (by simpa [PT.cells, rP] using hown5) hg5
                  have hbl6 := hbl5.grown hg5 hbX (fun k hk => (hrow5.row.lt k hk).1)
                  have HQ5 := Lib.hid (show ∀ q ∈ qs ++ [rP ng x A3 c3 m], RQd q from fun q hq => by
                    rcases List.mem_append.1 hq with hq | hq
                    · exact HQ.out q hq
                    · rw [List.mem_singleton] at hq; subst hq; exact rP_rqd _ _ _ _ _)
                  clear hown5 hg5 hat5 hrow5 hbl5 hnk5 hrd hone hbX
                  rw [← HTM.out] at HN
                  go_wp2_with fail
                  go_roundg (P.length - (k + 1))
                  case rel => exact ⟨k + 1, ng, qs ++ [rP ng x A3 c3 m], by omega, rfl, by go_num, rfl, by rw [List.length_append, List.length_singleton]; omega, HN.out, HQ5.out, hrow6, hbl6⟩
                  case measure => have := HG.out; omega
            · have k00 : ((k : Int) == 0) = false := by simp; omega
              clear hm0 hk0
              have hb' := HB2.out.trans (hbl.mono HB2.out.size)
              have HRR := Lib.hid (HRE.out wr hb' pt (by have := HTL.out; omega))
              clear hb'
              generalize rRead ls pt = rr at *
              go_wp2_with fail
              refine HRR.out.mono ?_
              rintro e w3 ⟨hr, hb3⟩
              have hbl3 := hbl.trans (hb3.mono hbl.size)
              have hrow3 := hrow.old hb3
              clear hbl hrow hb3 c0
              rcases hr with ⟨hr0, A3, n3, c3, m, rfl⟩ | ⟨x, m, hr0, A3, c3, rfl, hcc, hnk⟩
              · have HN := Lib.hid (show ro = none by rw [HRO.out, hr0])
                have hbl4 := hbl3.alloc hbl3.size (.cells (cellsT false A3 n3 c3 m) 47)
                have HB4 := Lib.hid (HB2.out.trans (hbl4.mono HB2.out.size))
                clear hr0 HRO hrow3 hbl3 hbl4
                unfold cellsT at HB4 ⊢
                go_wp2_with fail
                go_ret2
                exact ⟨.inr (.inl ⟨HF.out, fun ts hts => (by rw [HN.out] at hts; cases hts), rfl⟩), HB4.out⟩
              · have HN := Lib.hid (show ro = rwGo ls (k + 1) ng (P.drop (k + 1)) (qs.map PT.tm ++ [(sgnd ng x, m)]) by rw [HRO.out, hr0])
                have HTM := Lib.hid (show (qs ++ [rP ng x A3 c3 m]).map PT.tm = qs.map PT.tm ++ [(sgnd ng x, m)] by rw [List.map_append, List.map_singleton, rP_tm])
                clear hr0 HRO
                have hba := (Below.refl w3.heap.size w3).alloc (Nat.le_refl _) (.cells (rP ng x A3 c3 m).cells.toArray 47)
                have hrow4 := hrow3.old hba
                have hbl4 := hbl3.trans (hba.mono hbl3.size)
                have hba2 := (Below.refl _ (w3.alloc (.cells (rP ng x A3 c3 m).cells.toArray 47))).alloc (Nat.le_refl _) (.cells (rP ng x A3 c3 m).cells.toArray 47)
                have hrow5 := hrow4.old hba2
                have hbl5 := hbl4.trans (hba2.mono hbl4.size)
                have hnk5 := (hnk.old hba).old hba2
                have hrd := Reads.six_new (w3.alloc (.cells (rP ng x A3 c3 m).cells.toArray 47)) (rP ng x A3 c3 m).cells rfl 47
                rw [show (w3.alloc (.cells (rP ng x A3 c3 m).cells.toArray 47)).heap.size = w3.heap.size + 1 by simp] at hrd
                have hone := cells_one [rP ng x A3 c3 m]
                have h63 : qs.length + 1 ≤ maxLen := by unfold maxLen; omega
                have hby : (qs.length + 1) * 64 ≤ 140737488355328 := by omega
                have hbX := hbl5.size
                have HHB := Lib.hid hba
                clear hrow3 hbl3 hrow4 hbl4 hba2 hnk hba
                simp only [PT.cells, rP] at hrd hrow5 hbl5 hnk5 hbX
                unfold cellsT
                go_wp2_with (at_builtin; refine wpList_append_any _ rfl (.tmp 59) (.tmp 61) 26 rfl w2.heap.size 47 i0 _ 6 64 Tryz.underlying26 hi0 hz0 hz1 hz2 rfl (by decide) (.slice Aq qs.length cq) qs.length (qs.flatMap PT.cells) rfl hrow5.row (w3.heap.size + 1 + 1) (some ⟨w3.heap.size + 1, 0, none⟩) 1 1 _ rfl hrd (by simpa [PT.cells, rP] using hone) h63 hby hbX ?_; intro v5 w5 hown5 hg5 hat5; refine Hid.out ?_)
                refine Lib.hid ?_
                have hrow6 := hrow5.snoc (p := rP ng x A3 c3 m) ⟨hnk5, dig_dig _, hcc⟩ (by simpa [PT.cells, rP] using hown5) hg5
                have hbl6 := hbl5.grown hg5 hbX (fun k hk => (hrow5.row.lt k hk).1)
                have HQ5 := Lib.hid (show ∀ q ∈ qs ++ [rP ng x A3 c3 m], RQd q from fun q hq => by
                  rcases List.mem_append.1 hq with hq | hq
                  · exact HQ.out q hq
                  · rw [List.mem_singleton] at hq; subst hq; exact rP_rqd _ _ _ _ _)
                clear hown5 hg5 hat5 hrow5 hbl5 hnk5 hrd hone hbX
                rw [← HTM.out] at HN
                go_wp2_with fail
                go_roundg (P.length - (k + 1))
                case rel => exact ⟨k + 1, ng, qs ++ [rP ng x A3 c3 m], by omega, rfl, by go_num, rfl, by rw [List.length_append, List.length_singleton]; omega, HN.out, HQ5.out, hrow6, hbl6⟩
                case measure => have := HG.out; omega
      · obtain rfl : k = P.length := by omega
        have hts : ro = some (qs.map PT.tm) := by
          rw [HRO.out, List.drop_of_length_le (Nat.le_refl _)]
          rfl
        have HTS := Lib.hid hts
        have hb' := HB2.out.trans (hbl.mono HB2.out.size)
        have HPI := Lib.hid (rqd_in hrow HQ.out (HBD.out HF.out _ hts))
        have HFM := Lib.hid (RFormat_any Aq A cq c wr.heap.size 1000 1073741824 (pw 113) qs ls wr (Nat.le_refl _) HPI.out (by omega) big113 (by omega) ((HNI.out.below (hb'.mono hB)).more (Nat.le_trans hB hb'.size)))
        have HCN := Lib.hid (fun (W : World) (hW : Below wr.heap.size wr W) => RCanon_any Aq cq wr.heap.size 1000 1073741824 (pw 113) qs W hW.size (HPI.out.below hW) (by omega) big113)
        have HBW := Lib.hid hb'
        have HLN := Lib.hid (show qs.length ≤ 1000 by have := (HBD.out HF.out _ hts).1; rwa [List.length_map] at this)
        clear hts hrow hbl hb' HRO
        go_wp2_with fail
        refine HFM.out.mono ?_
        rintro e w3 ⟨hr, hb3⟩
        rcases hr with ⟨hno, _⟩ | ⟨_, P1, hP, hc, _, rfl⟩
        · rw [HF.out] at hno; cases hno
        · have HP := Lib.hid hP; have HC := Lib.hid hc
          have HBF := Lib.hid (HBW.out.trans (hb3.mono HBW.out.size))
          have HNW := Lib.hid (HCN.out _ hb3)
          have HU := Lib.hid (fun (Q : List Tm) (hQ : Canon Q) (ts : List Tm) (hts : some (qs.map PT.tm) = some ts) (hcf : ∀ m, cf Q m = cf ts m) => show Q = P1 from by
            injection hts with hts
            exact hQ.unique HP.out (fun m => by rw [hcf, HC.out, hts]))
          rw [← HTS.out] at HU
          clear hP hc hb3 HFM HCN
          by_cases hlv : (ls.length : Int) < lvL P1
          · have HV := Lib.hid (show fmtV ls P1 = .tuple #[.string ⟨#[]⟩, .int .i64 4] by unfold fmtV; rw [if_pos hlv])
            have HLV := Lib.hid hlv
            rw [HV.out]
            clear hlv
            go_wp2_with fail
            go_ret2
            refine ⟨.inr (.inl ⟨HF.out, fun ts hts Q hQ hcf hlq => ?_, rfl⟩), HBF.out⟩
            obtain rfl := HU.out Q hQ ts hts hcf
            have := HLV.out
            omega
          · have HV := Lib.hid (show fmtV ls P1 = .tuple #[.string ⟨(fmtS ls P1).toArray⟩, .int .i64 0] by unfold fmtV; rw [if_neg hlv])
            have HLV := Lib.hid (show lvL P1 ≤ (ls.length : Int) by omega)
            rw [HV.out]
            by_cases hts : fmtS ls P1 = s
            · have HTX := Lib.hid hts
              rw [hts]
              clear hlv hts
              generalize hsv : (⟨s.toArray⟩ : ByteArray) = sv at *
              clear hsv
              go_wp2_with fail
              refine HNW.out.mono ?_
              rintro e w4 ⟨⟨A4, c4, rs, rfl, hrow, hcan, hcf, hcn, hrl⟩, hb4⟩
              have HB4 := Lib.hid (HBF.out.trans (hb4.mono HBF.out.size))
              have HRP := Lib.hid (show rs.map PT.tm = P1 from hcan.unique HP.out (fun m => by rw [hcf, HC.out]))
              have HG := Lib.hid (show PRow w4 w.heap.size (.slice A4 rs.length c4) rs from ⟨own_mono hrow.row HBF.out.size, hrow.dg⟩)
              have HX := Lib.hid (And.intro hcan (And.intro hcf (And.intro hcn (Nat.le_trans hrl HLN.out))))
              clear hrow hcan hcf hcn hrl hb4
              go_wp2_with fail
              go_ret2
              refine ⟨.inr (.inr ⟨HF.out, qs.map PT.tm, A4, c4, rs, HTS.out, by rw [HRP.out]; exact HLV.out, by rw [HRP.out]; exact HTX.out, rfl, HG.out, HX.out.1, HX.out.2.1, HX.out.2.2.1, HX.out.2.2.2⟩), HB4.out⟩
            · have HTX := Lib.hid hts
              have hss : ((⟨(fmtS ls P1).toArray⟩ : ByteArray).toList == (⟨s.toArray⟩ : ByteArray).toList) = false := by
                rw [bs_list, bs_list]
                simpa using hts
              generalize (⟨(fmtS ls P1).toArray⟩ : ByteArray) = s1 at *
              generalize (⟨s.toArray⟩ : ByteArray) = sv at *
              clear hlv hts
              go_wp2_with fail
              go_ret2
              refine ⟨.inr (.inl ⟨HF.out, fun ts hts Q hQ hcf hlq => ?_, rfl⟩), HBF.out⟩
              obtain rfl := HU.out Q hQ ts hts hcf
              exact HTX.out
end Go.Proofs.YtnghlhcekghciaaGreatDoor

/- The reference reads what is printed; what is read is printed: plain laws. -/
namespace Go.Proofs.YtnghlhcekghciaaGreatDoor
open Go.RowKit

/-! ### bounds -/
def RMB (m : Mo) : Prop := ∀ j, j < 4 → 0 ≤ gt m j ∧ gt m j ≤ 1073741824
theorem rexp_bd {Q : List Bs} {y : Int} (h : rexp Q = some y) : 0 ≤ y ∧ y ≤ 1073741824 := by
  unfold rexp at h
  split at h
  · split at h
    · rename_i _ hh
      injection h with h
      omega
    · cases h
  · injection h with h
    omega
theorem gt_addAt {m : Mo} {i j : Nat} (hj : j < 4) (hi : i < 4) (y : Int) : gt (addAt m j y) i = if i = j then gt m j + y else gt m i := by
  rcases (by omega : j = 0 ∨ j = 1 ∨ j = 2 ∨ j = 3) with rfl | rfl | rfl | rfl <;> rcases (by omega : i = 0 ∨ i = 1 ∨ i = 2 ∨ i = 3) with rfl | rfl | rfl | rfl <;> simp [addAt, gt]
theorem rfac_bd {ls : List Bs} (h4 : ls.length ≤ 4) {p : Bs} {m m' : Mo} (hm : RMB m) (h : rfac ls p m = some m') : RMB m' := by
  unfold rfac at h
  cases hx : rexp (spl 94 p) with
  | none => rw [hx] at h; cases h
  | some y =>
    rw [hx] at h
    have hy := rexp_bd hx
    simp only at h
    split at h
    · cases h
    · rename_i hn
      injection h with h
      subst h
      rcases laTo_range ls ((spl 94 p).getD 0 []) ls.length with hl | ⟨j, hj, hl⟩
      · exact absurd (.inl (by rw [hl]; decide)) hn
      · rw [hl, Int.toNat_natCast] at hn ⊢
        have h0 : gt m j = 0 := by
          by_cases h0 : gt m j = 0
          · exact h0
          · exact absurd (.inr (.inr h0)) hn
        intro i hi
        rw [gt_addAt (by omega) hi]
        have := hm i hi
        split <;> omega
theorem rGo_bd {ls : List Bs} (h4 : ls.length ≤ 4) : ∀ (ps : List Bs) (b : Bool) (c x : Nat) (m m' : Mo), (∀ p ∈ ps, p.length ≤ 1000) → c < pw 112 → RMB m → rGo ls b ps c m = some (x, m') → x < pw 112 ∧ RMB m'
  | [], b, c, x, m, m', _, hc, hm, h => by
    rw [rGo] at h
    injection h with h
    injection h with h1 h2
    exact ⟨h1 ▸ hc, h2 ▸ hm⟩
  | p :: ps, b, c, x, m, m', hp, hc, hm, h => by
    rw [rGo] at h
    by_cases hb : (dok p && b) = true
    · rw [if_pos hb] at h
      have hd : p.all isd = true := by
        unfold dok at hb
        simp only [Bool.and_eq_true] at hb
        exact hb.1.1
      have h1 := decV_lt (l := p) hd
      have h2 : decV p < pw 112 := Nat.lt_of_lt_of_le h1 (Nat.le_trans (Nat.pow_le_pow_right (by decide) (by have := hp p (by simp); omega)) (ten_pow 112))
      exact rGo_bd h4 ps false _ x m m' (fun q hq => hp q (List.mem_cons_of_mem _ hq)) h2 hm h
    · rw [if_neg hb] at h
      cases hf : rfac ls p m with
      | none => rw [hf] at h; cases h
      | some m1 =>
        rw [hf] at h
        exact rGo_bd h4 ps false c x m1 m' (fun q hq => hp q (List.mem_cons_of_mem _ hq)) hc (rfac_bd h4 hm hf) h
theorem rRead_bd {ls : List Bs} (h4 : ls.length ≤ 4) {t : Bs} (ht : t.length ≤ 1000) {x : Nat} {m : Mo} (h : rRead ls t = some (x, m)) : x < pw 112 ∧ RMB m :=
  rGo_bd h4 _ true 1 x _ m (fun p hp => by rw [spl_parts] at hp; have := partsS_el 42 t p hp; omega) (pw_lt (a := 0) (by decide)) (fun j _ => by rw [mo_zero_gt rfl j]; decide) h
theorem rwGo_bd {ls : List Bs} (h4 : ls.length ≤ 4) : ∀ (ws : List Bs) (i : Nat) (ng : Bool) (acc ts : List Tm), (∀ p ∈ ws, p.length ≤ 1000) → (∀ t ∈ acc, t.1.natAbs < pw 112 ∧ RMB t.2) → rwGo ls i ng ws acc = some ts → ts.length ≤ acc.length + (ws.length + 1 - i % 2) / 2 ∧ ∀ t ∈ ts, t.1.natAbs < pw 112 ∧ RMB t.2
  | [], i, ng, acc, ts, _, ha, h => by
    rw [rwGo] at h
    injection h with h
    subst h
    exact ⟨by omega, ha⟩
  | w :: ws, i, ng, acc, ts, hp, ha, h => by
    have hp' : ∀ p ∈ ws, p.length ≤ 1000 := fun q hq => hp q (List.mem_cons_of_mem _ hq)
    rw [rwGo] at h
    by_cases hi : i % 2 = 1
    · rw [if_pos hi] at h
      have := rwGo_bd h4 ws (i + 1) _ acc ts hp' ha h
      exact ⟨by have h1 := this.1; rw [List.length_cons]; omega, this.2⟩
    · rw [if_neg hi] at h
      cases hr : rRead ls (wtxt i w) with
      | none => rw [hr] at h; cases h
      | some xm =>
        obtain ⟨x, m⟩ := xm
        rw [hr] at h
        have hw : (wtxt i w).length ≤ 1000 := by
          have := hp w (by simp)
          unfold wtxt
          split
          · rw [List.length_drop]; omega
          · exact this
        have hb := rRead_bd h4 hw hr
        have := rwGo_bd h4 ws (i + 1) _ _ ts hp' (fun t ht => by
          rcases List.mem_append.1 ht with ht | ht
          · exact ha t ht
          · rw [List.mem_singleton] at ht
            subst ht
            refine ⟨?_, hb.2⟩
            have : (sgnd (wneg i ng w) x).natAbs = x := by unfold sgnd; cases wneg i ng w <;> simp
            rw [this]
            exact hb.1) h
        exact ⟨by have h1 := this.1; rw [List.length_append, List.length_singleton] at h1; rw [List.length_cons]; omega, this.2⟩
theorem rwR_bd {ls : List Bs} (h4 : ls.length ≤ 4) {s : Bs} (hs : s.length ≤ 1000) : ∀ ts, rwR ls s = some ts → RBnd ts := fun ts h => by
  have h1 := rwGo_bd h4 _ 0 false [] ts (fun p hp => by rw [spl_parts] at hp; have := partsS_el 32 s p hp; omega) (by simp) h
  have h2 : (spl 32 s).length ≤ 1001 := by rw [spl_parts]; have := partsS_few 32 s; omega
  exact ⟨by have := h1.1; simp at this; omega, fun t ht => h1.2 t ht⟩

/-! ### what is printed is read -/
theorem laTo_at {ls : List Bs} (h : namesB ls = true) {j : Nat} : ∀ n, j < n → n ≤ ls.length → laTo ls (nmAt ls j) n = (j : Int)
  | 0, h1, _ => by omega
  | n + 1, h1, h2 => by
    rw [laTo]
    by_cases hjn : j = n
    · subst hjn
      rw [if_pos (by unfold nmAt; simp)]
    · have hne := nm_apart h (i := j) (j := n) (by omega) (by omega)
      rw [if_neg (by simp only [beq_iff_eq]; exact fun e => hne e.symm)]
      exact laTo_at h n (by omega) (by omega)
theorem dec_all (n : Nat) : (Lib.decDigits n).all isd = true := List.all_eq_true.2 fun c hc => by
  have := decD_dig n c hc
  unfold isDig at this
  simpa [isd] using this
theorem dec_dok (n : Nat) : dok (Lib.decDigits n) = true := by
  unfold dok
  rw [dec_all, Bool.true_and]
  have := decD_ne n
  simpa using List.length_pos_iff.2 this
theorem rfac_at {ls : List Bs} (h : namesB ls = true) (ho : NmOk ls) {m m' : Mo} {j : Nat} (hj : j < ls.length) (h0 : 0 ≤ gt m j) (h1 : gt m j ≠ 0) (h2 : gt m j ≤ 1073741824) (hz : gt m' j = 0) : rfac ls (fpart ls m j) m' = some (addAt m' j (gt m j)) := by
  have h94 : (94 : UInt8) ∉ nmAt ls j := fun hm => by
    rcases ho.ch j 94 hm with hh | hh
    · unfold isDig at hh; have : (94 : UInt8).toNat = 94 := rfl; omega
    · exact hh.2 rfl
  have hd94 : ∀ n, (94 : UInt8) ∉ Lib.decDigits n := fun n hm => by
    have := decD_dig _ _ hm
    unfold isDig at this
    have : (94 : UInt8).toNat = 94 := rfl
    omega
  have hla := laTo_at h (j := j) ls.length hj (Nat.le_refl _)
  unfold fpart powS
  by_cases he : 1 < gt m j
  · rw [if_pos he]
    have hs : spl 94 (nmAt ls j ++ 94 :: Lib.decDigits (gt m j).toNat) = [nmAt ls j, Lib.decDigits (gt m j).toNat] := by
      rw [spl_parts, parts_at _ h94, parts_no (hd94 _)]
    unfold rfac
    rw [hs, rexp_two rfl]
    rw [show ([nmAt ls j, Lib.decDigits (gt m j).toNat] : List Bs).getD 1 [] = Lib.decDigits (gt m j).toNat from rfl, show ([nmAt ls j, Lib.decDigits (gt m j).toNat] : List Bs).getD 0 [] = nmAt ls j from rfl, dec_dok, decV_decD, if_pos ⟨rfl, by omega⟩, hla]
    simp only [Int.toNat_natCast]
    rw [if_neg (by
      rintro (hh | hh | hh)
      · omega
      · simp at hh
      · exact hh hz), Int.toNat_of_nonneg h0]
  · rw [if_neg he, List.append_nil]
    have hs : spl 94 (nmAt ls j) = [nmAt ls j] := by rw [spl_parts, parts_no h94]
    unfold rfac
    rw [hs, rexp_one (by simp), show ([nmAt ls j] : List Bs).getD 0 [] = nmAt ls j from rfl, hla]
    simp only [Int.toNat_natCast]
    rw [if_neg (by
      rintro (hh | hh | hh)
      · omega
      · simp at hh
      · exact hh hz), show gt m j = 1 by omega]
theorem rGo_app (ls : List Bs) : ∀ (a b : List Bs) (c : Nat) (m : Mo), rGo ls false (a ++ b) c m = (rGo ls false a c m).bind fun x => rGo ls false b x.1 x.2
  | [], b, c, m => rfl
  | p :: a, b, c, m => by
    rw [List.cons_append, rGo, rGo, Bool.and_false, if_neg (by decide), if_neg (by decide)]
    cases rfac ls p m with
    | none => rfl
    | some x => exact rGo_app ls a b c _
theorem mTo_at (m : Mo) {j : Nat} (hj : j < 4) : gt (mTo m j) j = 0 := by
  rcases (by omega : j = 0 ∨ j = 1 ∨ j = 2 ∨ j = 3) with rfl | rfl | rfl | rfl <;> simp [mTo, gt]
theorem rGo_facs {ls : List Bs} (h : namesB ls = true) (ho : NmOk ls) {m : Mo} (hl : LvOk ls m) (h0 : ∀ j, j < 4 → 0 ≤ gt m j) (he : ExOk m 4) (c : Nat) : ∀ j, j ≤ 4 → rGo ls false (facs ls m j) c (0, 0, 0, 0) = some (c, mTo m j)
  | 0, _ => rfl
  | j + 1, hj => by
    have ih := rGo_facs h ho hl h0 he c j (by omega)
    by_cases hg : gt m j = 0
    · rw [facs, if_pos hg, mTo_skip m (by omega) hg]; exact ih
    · rw [facs, if_neg hg, rGo_app, ih]
      show rGo ls false [fpart ls m j] c (mTo m j) = _
      rw [rGo, Bool.and_false, if_neg (by decide), rfac_at h ho (hl j (by omega) hg) (h0 j (by omega)) hg (he j (by omega)) (mTo_at m (by omega))]
      show some _ = _
      rw [mTo_add m (by omega)]
theorem facs_letter {ls : List Bs} (ho : NmOk ls) {m : Mo} (hl : LvOk ls m) : ∀ j, j ≤ 4 → ∀ p r, facs ls m j = p :: r → dok p = false
  | 0, _, p, r, h => by cases h
  | j + 1, hj, p, r, h => by
    have ih := facs_letter ho hl j (by omega)
    rw [facs] at h
    by_cases hg : gt m j = 0
    · rw [if_pos hg] at h
      exact ih p r h
    · rw [if_neg hg] at h
      cases hf : facs ls m j with
      | nil =>
        rw [hf] at h
        injection h with h _
        subst h
        obtain ⟨c, t, e, hc⟩ := nm_head ho (hl j (by omega) hg)
        unfold fpart dok
        rw [e, List.cons_append, List.all_cons]
        have : isd c = false := by simp [isd]; omega
        rw [this]
        rfl
      | cons q t =>
        rw [hf] at h
        injection h with h _
        subst h
        exact ih q t hf
theorem rRead_at {ls : List Bs} (h : namesB ls = true) {c : Nat} {m : Mo} (hl : LvOk ls m) (h0 : ∀ j, j < 4 → 0 ≤ gt m j) (he : ExOk m 4) : rRead ls (termS ls c m) = some (c, m) := by
  have ho : NmOk ls := (namesB_ok h).2
  have hfa := fun c => rGo_facs h ho hl h0 he c 4 (Nat.le_refl _)
  rw [mTo_four] at hfa
  have hne := parts_ne (ls := ls) (c := c) (m := m)
  unfold rRead
  rw [spl_parts, term_parts ho]
  unfold headP at *
  by_cases hc : c = 1 ∧ m ≠ (0, 0, 0, 0)
  · rw [if_pos hc, List.nil_append] at *
    cases hf : facs ls m 4 with
    | nil => exact absurd hf hne
    | cons p r =>
      have hd := facs_letter ho hl 4 (Nat.le_refl _) p r hf
      have h1 := hfa 1
      rw [hf, rGo, hd, Bool.false_and, if_neg (by decide)] at h1
      rw [rGo, hd, Bool.false_and, if_neg (by decide), hc.1]
      exact h1
  · rw [if_neg hc, List.singleton_append, rGo, dec_dok, if_pos (by decide), decV_decD]
    exact hfa c
def sgnW (t : Tm) : Bs := if t.1 < 0 then [45] else [43]
def wordsT (ls : List Bs) : List Tm → List Bs
  | [] => []
  | u :: l => sgnW u :: termS ls u.1.natAbs u.2 :: wordsT ls l
theorem spl_words {ls : List Bs} (ho : NmOk ls) : ∀ (l : List Tm) (w : Bs), (32 : UInt8) ∉ w → spl 32 (w ++ fmtGo ls false l) = w :: wordsT ls l
  | [], w, hw => by rw [show fmtGo ls false [] = [] from rfl, List.append_nil, spl_parts, parts_no hw]; rfl
  | u :: l, w, hw => by
    have h32 := termS_no ho u.1.natAbs u.2 (k := 32) (.inl (by decide))
    have ih := spl_words ho l _ h32
    have e : fmtGo ls false (u :: l) = 32 :: (sgnW u ++ 32 :: (termS ls u.1.natAbs u.2 ++ fmtGo ls false l)) := by
      rw [fmtGo, signS, if_neg (by decide)]
      unfold sgnW
      by_cases hu : u.1 < 0
      · rw [if_pos (by simpa using hu), if_pos hu]; simp
      · rw [if_neg (by simpa using hu), if_neg hu]; simp
    have hs : (32 : UInt8) ∉ sgnW u := by unfold sgnW; split <;> decide
    rw [e, spl_parts, parts_at _ hw, parts_at _ hs, ← spl_parts, ih]
    rfl
theorem sgnd_own {z : Int} : sgnd (decide (z < 0)) z.natAbs = z := by
  unfold sgnd
  by_cases h : z < 0
  · simp [h]; omega
  · simp [h]; omega
theorem rwGo_words {ls : List Bs} (h : namesB ls = true) : ∀ (l : List Tm) (i : Nat) (ng : Bool) (acc : List Tm), (∀ x ∈ l, TOk ls x) → i % 2 = 1 → rwGo ls i ng (wordsT ls l) acc = some (acc ++ l)
  | [], i, ng, acc, _, _ => by rw [wordsT, rwGo, List.append_nil]
  | u :: l, i, ng, acc, hx, hi => by
    have h1 := hx u (by simp)
    have ih := rwGo_words h l (i + 1 + 1) (decide (u.1 < 0)) (acc ++ [u]) (fun x hx' => hx x (List.mem_cons_of_mem _ hx')) (by omega)
    have hm : ∀ w, minus0 (i + 1) w = false := fun w => by unfold minus0; simp
    have hs : (sgnW u == [45]) = decide (u.1 < 0) := by
      unfold sgnW
      by_cases hu : u.1 < 0
      · rw [if_pos hu]; simp [hu]
      · rw [if_neg hu]; simp [hu]
    rw [wordsT, rwGo, if_pos hi, rwGo, if_neg (by omega)]
    unfold wtxt wneg
    rw [hm, if_neg (by decide), if_neg (by decide), rRead_at h h1.1 h1.2.1 h1.2.2, hs]
    simp only [sgnd_own]
    rw [ih]
    simp
theorem rwR_at {ls : List Bs} (h : namesB ls = true) {P : List Tm} (hx : ∀ x ∈ P, TOk ls x) : rwR ls (fmtS ls P) = some (some0 P) := by
  have ho : NmOk ls := (namesB_ok h).2
  have key : ∀ (t : Tm) (l : List Tm), (∀ x ∈ t :: l, TOk ls x) → rwR ls (fmtGo ls true (t :: l)) = some (t :: l) := fun t l hx => by
    have h1 := hx t (by simp)
    have hl : ∀ x ∈ l, TOk ls x := fun x hx' => hx x (List.mem_cons_of_mem _ hx')
    have h32 := termS_no ho t.1.natAbs t.2 (k := 32) (.inl (by decide))
    obtain ⟨b, r, e, hb⟩ := termS_first ho (c := t.1.natAbs) h1.1
    have hrd := rRead_at h (c := t.1.natAbs) h1.1 h1.2.1 h1.2.2
    by_cases ht : t.1 < 0
    · have e2 : fmtGo ls true (t :: l) = (45 :: termS ls t.1.natAbs t.2) ++ fmtGo ls false l := by
        rw [fmtGo, signS, if_pos rfl, if_pos (by simpa using ht)]
        simp
      unfold rwR
      rw [e2, spl_words ho l _ (by simp; exact h32), rwGo, if_neg (by decide)]
      have hm : minus0 0 (45 :: termS ls t.1.natAbs t.2) = true := by unfold minus0; simp
      unfold wtxt wneg
      rw [hm, if_pos rfl, if_pos rfl, List.drop_succ_cons, List.drop_zero, hrd]
      simp only [Nat.zero_add, List.nil_append]
      rw [show sgnd true t.1.natAbs = t.1 by have := @sgnd_own t.1; rwa [show decide (t.1 < 0) = true by simpa using ht] at this]
      exact rwGo_words h l 1 _ [t] hl rfl
    · have e2 : fmtGo ls true (t :: l) = termS ls t.1.natAbs t.2 ++ fmtGo ls false l := by
        rw [fmtGo, signS, if_pos rfl, if_neg (by simpa using ht)]
        simp
      unfold rwR
      rw [e2, spl_words ho l _ h32, rwGo, if_neg (by decide)]
      have hm : minus0 0 (termS ls t.1.natAbs t.2) = false := by
        rw [e]
        unfold minus0
        simp [hb]
      unfold wtxt wneg
      rw [hm, if_neg (by decide), if_neg (by decide), hrd]
      simp only [Nat.zero_add, List.nil_append]
      rw [show sgnd false t.1.natAbs = t.1 by have := @sgnd_own t.1; rwa [show decide (t.1 < 0) = false by simpa using ht] at this]
      exact rwGo_words h l 1 _ [t] hl rfl
  rw [fmtS_some0]
  unfold some0
  by_cases hP : P = []
  · rw [if_pos hP]
    refine key _ _ fun x hx' => ?_
    rw [List.mem_singleton] at hx'
    subst hx'
    exact ⟨fun j _ hg => absurd (mo_zero_gt rfl j) hg, fun j _ => by rw [mo_zero_gt rfl j]; decide, fun j _ => by rw [mo_zero_gt rfl j]; decide⟩
  · rw [if_neg hP]
    cases P with
    | nil => exact absurd rfl hP
    | cons t l => exact key t l hx

/-! ### what the program reads has small exponents -/
def TLv (ls : List Bs) (t : Tm) : Prop := LvOk ls t.2 ∧ ∀ j, j < 4 → 0 ≤ gt t.2 j
theorem readGo_no {ls : List Bs} (h : namesB ls = true) : ∀ (l : List Tm) (t : Tm) (n : Nat) (mi : Bool) (acc : List Tm), (∀ x ∈ t :: l, TLv ls x) → (∃ x ∈ t :: l, ¬ ExOk x.2 4) → readGo ls n mi (termS ls t.1.natAbs t.2 ++ fmtGo ls false l) acc = none
  | l, t, 0, mi, acc, _, _ => rfl
  | [], t, n + 1, mi, acc, hx, hb => by
    have ho : NmOk ls := (namesB_ok h).2
    have h1 := hx t (by simp)
    have h32 := termS_no ho t.1.natAbs t.2 (k := 32) (.inl (by decide))
    obtain ⟨x, hx', he⟩ := hb
    rw [List.mem_singleton] at hx'
    subst hx'
    rw [show fmtGo ls false [] = [] from rfl, List.append_nil, readGo, cut_no h32, termR_none h h1.1 h1.2 he]
  | u :: l, t, n + 1, mi, acc, hx, hb => by
    have ho : NmOk ls := (namesB_ok h).2
    have h1 := hx t (by simp)
    have h32 := termS_no ho t.1.natAbs t.2 (k := 32) (.inl (by decide))
    by_cases ht : ExOk t.2 4
    · have hb' : ∃ x ∈ u :: l, ¬ ExOk x.2 4 := by
        obtain ⟨x, hx', he⟩ := hb
        rcases List.mem_cons.1 hx' with rfl | hx'
        · exact absurd ht he
        · exact ⟨x, hx', he⟩
      by_cases hu : u.1 < 0
      · have e : fmtGo ls false (u :: l) = 32 :: ([45, 32] ++ (termS ls u.1.natAbs u.2 ++ fmtGo ls false l)) := by
          rw [fmtGo, signS, if_neg (by decide), if_pos (by simpa using hu)]
          simp
        rw [e, readGo, cut_at _ h32, termR_at h h1.1 h1.2 ht]
        simp only
        rw [if_neg (by decide), if_neg (by simp [Lib.hasPrefix, List.isPrefixOf]), if_pos (by simp [Lib.hasPrefix, List.isPrefixOf])]
        simp only [List.cons_append, List.nil_append, List.drop_succ_cons, List.drop_zero]
        exact readGo_no h l u n true _ (fun x hx' => hx x (List.mem_cons_of_mem _ hx')) hb'
      · have e : fmtGo ls false (u :: l) = 32 :: ([43, 32] ++ (termS ls u.1.natAbs u.2 ++ fmtGo ls false l)) := by
          rw [fmtGo, signS, if_neg (by decide), if_neg (by simpa using hu)]
          simp
        rw [e, readGo, cut_at _ h32, termR_at h h1.1 h1.2 ht]
        simp only
        rw [if_neg (by decide), if_pos (by simp [Lib.hasPrefix, List.isPrefixOf])]
        simp only [List.cons_append, List.nil_append, List.drop_succ_cons, List.drop_zero]
        exact readGo_no h l u n false _ (fun x hx' => hx x (List.mem_cons_of_mem _ hx')) hb'
    · have hc : (Lib.cut (termS ls t.1.natAbs t.2 ++ fmtGo ls false (u :: l)) [32]).1 = termS ls t.1.natAbs t.2 := by
        have e : ∃ r, fmtGo ls false (u :: l) = 32 :: r := by
          rw [fmtGo, signS, if_neg (by decide)]
          split <;> exact ⟨_, rfl⟩
        obtain ⟨r, e⟩ := e
        rw [e, cut_at _ h32]
      rw [readGo, hc, termR_none h h1.1 h1.2 ht]
theorem readR_ex {ls : List Bs} (h : namesB ls = true) {P ts : List Tm} (hx : ∀ x ∈ P, TLv ls x) (hr : readR ls (fmtS ls P) = some ts) : ∀ x ∈ P, TOk ls x := by
  have ho : NmOk ls := (namesB_ok h).2
  by_cases hbad : ∃ x ∈ P, ¬ ExOk x.2 4
  · exfalso
    cases P with
    | nil => obtain ⟨x, hx', _⟩ := hbad; cases hx'
    | cons t l =>
      obtain ⟨b, r, e, hb⟩ := termS_first ho (c := t.1.natAbs) (hx t (by simp)).1
      have hno := fun n mi => readGo_no h l t n mi [] hx hbad
      rw [show fmtS ls (t :: l) = fmtGo ls true (t :: l) by unfold fmtS; rw [if_neg (by simp)]] at hr
      by_cases ht : t.1 < 0
      · have e2 : fmtGo ls true (t :: l) = 45 :: (termS ls t.1.natAbs t.2 ++ fmtGo ls false l) := by
          rw [fmtGo, signS, if_pos rfl, if_pos (by simpa using ht)]
          simp
        unfold readR at hr
        rw [show Lib.trimPrefix (fmtGo ls true (t :: l)) [45] = termS ls t.1.natAbs t.2 ++ fmtGo ls false l by rw [e2]; simp [Lib.trimPrefix, Lib.hasPrefix, List.isPrefixOf], hno] at hr
        cases hr
      · have e2 : fmtGo ls true (t :: l) = termS ls t.1.natAbs t.2 ++ fmtGo ls false l := by
          rw [fmtGo, signS, if_pos rfl, if_neg (by simpa using ht)]
          simp
        have hp : Lib.hasPrefix (fmtGo ls true (t :: l)) [45] = false := by
          rw [e2, e]
          simp [Lib.hasPrefix, List.isPrefixOf, Ne.symm hb]
        unfold readR at hr
        rw [show Lib.trimPrefix (fmtGo ls true (t :: l)) [45] = termS ls t.1.natAbs t.2 ++ fmtGo ls false l by unfold Lib.trimPrefix; rw [hp]; exact e2, hno] at hr
        cases hr
  · intro x hx'
    refine ⟨(hx x hx').1, (hx x hx').2, ?_⟩
    by_cases he : ExOk x.2 4
    · exact he
    · exact absurd ⟨x, hx', he⟩ hbad

/-! ### the two agree -/
theorem canon_lv {ls : List Bs} {P : List Tm} (hP : Canon P) (hl : lvL P ≤ (ls.length : Int)) : ∀ x ∈ P, TLv ls x := fun t ht => by
  have hv := hP.vl t ht
  refine ⟨lvOk_of hP hl ht, fun j hj => ?_⟩
  unfold vld at hv
  simp only [Bool.and_eq_true, decide_eq_true_eq] at hv
  rcases (by omega : j = 0 ∨ j = 1 ∨ j = 2 ∨ j = 3) with rfl | rfl | rfl | rfl <;> simp only [gt] <;> omega
theorem canon_ok {ls : List Bs} {P ts : List Tm} (hP : Canon P) (hc : ∀ m, cf P m = cf ts m) (hb : RBnd ts) (hl : lvL P ≤ (ls.length : Int)) : ∀ x ∈ P, TOk ls x := fun t ht => by
  have h1 := canon_lv hP hl t ht
  refine ⟨h1.1, h1.2, fun j hj => ?_⟩
  obtain ⟨s, hs, _, hs2⟩ := hP.src hc ht
  have := (hb.2 s hs).2 j hj
  rw [hs2] at this
  exact this.2
end Go.Proofs.YtnghlhcekghciaaGreatDoor

/- PolytextParses: the walk. -/
namespace Go.Proofs.YtnghlhcekghciaaGreatDoor
open Go.RowKit

set_option maxHeartbeats 2000000 in
set_option maxRecDepth 100000 in
theorem ParseN_any (s : Bs) (A : Option Addr) (c B : Nat) (ls : List Bs) (w : World) (hs : s.length ≤ 1000) (hB : B ≤ w.heap.size) (hn : NIn w B A c ls) (htab : TabT w) (hm : MaxL w) :
    Calls Tryz.prog 8 #[.string ⟨s.toArray⟩, .slice A ls.length c] w (PParseRes ls s w) := by
  cases hnb : namesB ls with
  | true => exact Parse_any s A c B ls w (by omega) (readR_bd (namesB_ok hnb).1 hs) hB hn htab hm
  | false =>
    have HNA := Lib.hid (Names_any A c B ls w hn.rd hn.cap hn.len hn.el)
    have HF := Lib.hid hnb
    rw [hnb] at HNA
    clear hn htab hm hnb
    unfold PParseRes
    go_enter Tryz.func8, Tryz.ntmps8
    go_wp2_with fail
    refine HNA.out.mono ?_
    rintro e w1 ⟨rfl, rfl⟩
    go_wp2_with fail
    go_ret2
    exact ⟨.inl ⟨HF.out, rfl⟩, Below.refl _ _⟩

set_option maxHeartbeats 4000000 in
set_option maxRecDepth 100000 in
theorem ParsesLaw_any (s : Bs) (a1 : Option Addr) (cap1 : Nat) (ls1 : List Bs) (W : World) (in1 : NArg W W.heap.size a1 cap1 ls1) (htab : TabT W) (hm : MaxL W) :
    Calls Tryz.prog 3 #[.string ⟨s.toArray⟩, .slice a1 ls1.length cap1] W fun e W' => e = .returned (.bool true) ∧ Below W.heap.size W W' := by
  have HT := Lib.hid htab; have H1 := Lib.hid in1; have HM := Lib.hid hm
  clear htab in1 hm
  have HAW := Lib.hid (fun (w : World) (hW : Below W.heap.size W w) => awake_any w (HT.out.on hW))
  have HNW := Lib.hid (fun (w : World) (hW : Below W.heap.size W w) => names_any a1 cap1 W.heap.size ls1 w (H1.out.rd.below hW) H1.out.len H1.out.el)
  have HPA := Lib.hid (fun (w : World) (hW : Below W.heap.size W w) (hs : s.length ≤ 1000) (hn : Nms ls1) => ParseN_any s a1 cap1 W.heap.size ls1 w hs hW.size ((H1.out.nin hn).below hW) (HT.out.on hW) (HM.out.old hW))
  have HRP := Lib.hid (fun (w : World) (hW : Below W.heap.size W w) (hs : s.length ≤ 1000) (hn : Nms ls1) => RParse_any s a1 cap1 W.heap.size ls1 w (by omega) (fun hnb => rwR_bd (namesB_ok hnb).1 hs) hW.size ((H1.out.nin hn).below hW))
  go_enter Tryz.func3, Tryz.ntmps3
  go_wp2_with fail
  refine (HAW.out _ (Below.refl _ _)).mono ?_
  rintro e w1 ⟨rfl, hb1⟩
  by_cases hsz : s.length ≤ 1000
  · have k1 : (s.length : Int) ≤ 1000 := by omega
    go_wp2_with fail
    refine (HNW.out _ hb1).mono ?_
    rintro e w1' ⟨b, rfl, hn, rfl⟩
    have HN := Lib.hid hn
    clear hn
    cases b with
    | false =>
      go_wp2_with fail
      refine (HAW.out _ hb1).mono ?_
      rintro e w2 ⟨rfl, hb2⟩
      go_wp2_with fail
      go_ret
      exact ⟨rfl, hb1.trans (hb2.mono hb1.size)⟩
    | true =>
      go_wp2_with fail
      refine (HPA.out _ hb1 hsz (HN.out (by trivial))).mono ?_
      rintro e w2 ⟨hr, hb2⟩
      have hb2' := hb1.trans (hb2.mono hb1.size)
      have HRQ := Lib.hid (HRP.out _ hb2' hsz (HN.out (by trivial)))
      rcases hr with ⟨hno, rfl⟩ | ⟨hok, hbad, rfl⟩ | ⟨hok, ts, A2, c2, qs, hts, hlv, hfm, rfl, hg⟩
      · have HX := Lib.hid hno
        have HSM := Lib.hid (fun (w : World) => RSame_any none none 0 0 0 [] [] w (Nat.zero_le _) ⟨Reads.none_, by simp⟩ ⟨Reads.none_, by simp⟩ (by simp) (by simp) (by simp) (by simp) (by simp) (by simp) (by simp))
        clear hno hb2
        go_wp2_with fail
        refine HRQ.out.mono ?_
        rintro e w3 ⟨hr, hb3⟩
        have hb3' := hb2'.trans (hb3.mono hb2'.size)
        rcases hr with ⟨_, rfl⟩ | ⟨hok, _⟩ | ⟨hok, _⟩
        · clear hb3 hb2'
          go_wp2_with fail
          refine (HSM.out _).mono ?_
          rintro e w4 ⟨rfl, hb4⟩
          have hb4' := hb3'.trans (hb4.mono hb3'.size)
          clear hb4
          go_wp2_with fail
          go_ret
          exact ⟨by simp, hb4'⟩
        · rw [HX.out] at hok; cases hok
        · rw [HX.out] at hok; cases hok
      · have HX := Lib.hid hok; have HB := Lib.hid hbad
        have HSM := Lib.hid (fun (w : World) => RSame_any none none 0 0 0 [] [] w (Nat.zero_le _) ⟨Reads.none_, by simp⟩ ⟨Reads.none_, by simp⟩ (by simp) (by simp) (by simp) (by simp) (by simp) (by simp) (by simp))
        clear hok hbad hb2
        go_wp2_with fail
        refine HRQ.out.mono ?_
        rintro e w3 ⟨hr, hb3⟩
        have hb3' := hb2'.trans (hb3.mono hb2'.size)
        rcases hr with ⟨hno, _⟩ | ⟨_, _, rfl⟩ | ⟨_, ts, A3, c3, rs, hts, hlv, hfm, rfl, hrow, hcan, hcf, hcn, hrl⟩
        · rw [HX.out] at hno; cases hno
        · clear hb3 hb2'
          go_wp2_with fail
          refine (HSM.out _).mono ?_
          rintro e w4 ⟨rfl, hb4⟩
          have hb4' := hb3'.trans (hb4.mono hb3'.size)
          clear hb4
          go_wp2_with fail
          go_ret
          exact ⟨by simp, hb4'⟩
        · exfalso
          have hbd := rwR_bd (namesB_ok HX.out).1 hsz ts hts
          have htok := canon_ok hcan hcf hbd hlv
          have hrd := readR_at HX.out htok
          rw [hfm] at hrd
          exact HB.out _ hrd _ hcan (cf_some0 _) hlv hfm
      · have HX := Lib.hid hok
        have htlv := canon_lv hg.can hlv
        have htok := readR_ex HX.out htlv (by rw [hfm]; exact hts)
        have hrw := rwR_at HX.out htok
        have hcs := cf_some0 (qs.map PT.tm)
        rw [hfm] at hrw
        have HRW := Lib.hid hrw; have HC0 := Lib.hid hcs; have HFM := Lib.hid hfm; have HLV := Lib.hid hlv
        have HG := Lib.hid hg
        clear hok hg hb2 hts htlv htok hrw hcs hfm hlv
        go_wp2_with fail
        refine HRQ.out.mono ?_
        rintro e w3 ⟨hr, hb3⟩
        have hb3' := hb2'.trans (hb3.mono hb2'.size)
        rcases hr with ⟨hno, _⟩ | ⟨_, hbad, _⟩ | ⟨_, ts, A3, c3, rs, hts, _, _, rfl, hrow, hcan, hcf, hcn, hrl⟩
        · rw [HX.out] at hno; cases hno
        · exact absurd HFM.out (hbad _ HRW.out _ HG.out.can HC0.out HLV.out)
        · have HRP2 := Lib.hid (show rs.map PT.tm = qs.map PT.tm from hcan.unique HG.out.can (fun m => by
            rw [HRW.out] at hts
            injection hts with hts
            rw [hcf, ← hts, ← HC0.out]))
          have hgp := HG.out.pin (by omega) big113
          have HRS := Lib.hid (RSame_any A2 A3 c2 c3 w3.heap.size qs rs w3 (Nat.le_refl _) ((hgp.pin.below hb3).more hb3.size) hrow.polyIn HG.out.own.cn (fun p hp => (hcn p hp).1) hgp.wf (fun p hp => (hcn p hp).2.1) hgp.dl (fun p hp => by have := (hcn p hp).2.2; omega) (by have := hgp.len; omega))
          rw [HRP2.out] at HRS
          clear hrow hcan hcf hcn hb3 hgp hb2' hts
          go_wp2_with fail
          refine HRS.out.mono ?_
          rintro e w5 ⟨rfl, hb5⟩
          have hb5' := hb3'.trans (hb5.mono hb3'.size)
          clear hb5 hb3' HRS
          go_wp2_with fail
          go_ret
          exact ⟨by simp, hb5'⟩
  · have k1 : (1000 : Int) < (s.length : Int) := by omega
    go_wp2_with fail
    refine (HAW.out _ hb1).mono ?_
    rintro e w2 ⟨rfl, hb2⟩
    go_wp2_with fail
    go_ret
    exact ⟨rfl, hb1.trans (hb2.mono hb1.size)⟩
end Go.Proofs.YtnghlhcekghciaaGreatDoor
