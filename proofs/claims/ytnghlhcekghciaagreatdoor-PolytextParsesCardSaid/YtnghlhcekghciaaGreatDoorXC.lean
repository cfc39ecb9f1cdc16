/- Contract of polytext.Format. -/
import Derived.Test.YtnghlhcekghciaaGreatDoorXB
namespace Go.Proofs.YtnghlhcekghciaaGreatDoor
open Go.RowKit

theorem fmtGo_len {ns : List Bs} (hns : ∀ n ∈ ns, n.length ≤ 16) {K : Nat} : ∀ (l : List Tm) (first : Bool), (∀ t ∈ l, (Lib.decDigits t.1.natAbs).length ≤ K ∧ ∀ j, j < 4 → gt t.2 j ≤ 4398046511104) → (fmtGo ns first l).length ≤ l.length * (K + 127)
  | [], _, _ => by simp [fmtGo]
  | t :: l, first, h => by
    have h1 := termS_len hns (h t (by simp)).1 (h t (by simp)).2
    have h2 := fmtGo_len hns l false (fun x hx => h x (List.mem_cons_of_mem _ hx))
    have h3 : (signS first (decide (t.1 < 0))).length ≤ 3 := by unfold signS; (repeat' split) <;> simp
    rw [fmtGo, List.length_append, List.length_append, List.length_cons, Nat.add_mul]
    omega
theorem decD_pwk {v k : Nat} (h : v < pw k) : (Lib.decDigits v).length ≤ 10 * k + 1 := by
  have h1 := pow_dec k
  rw [Nat.pow_mul, show (2 : Nat) ^ 32 = 4294967296 by decide] at h1
  have h2 : v < 10 ^ (10 * k) := Nat.lt_of_lt_of_le h h1
  have h3 : (10 : Nat) ^ (10 * k) ≤ 10 ^ (10 * k + 1) := Nat.pow_le_pow_right (by decide) (by omega)
  exact decD_len (Nat.lt_of_lt_of_le h2 h3)
theorem decD_pw {v : Nat} (h : v < Big) : (Lib.decDigits v).length ≤ 6001 := decD_pwk (k := 600) h
theorem BL.put {B b : Nat} {pre : List Value} {t s : Bs} {w : World} (h : BL B b (pre ++ Lib.byteCells t) s w) : BL B b pre (t ++ s) w := by
  unfold BL at *
  rw [Lib.byteCells_append, ← List.append_assoc]
  exact h
theorem BL.take {B b : Nat} {pre : List Value} {t : Bs} {w : World} (h : BL B b pre t w) : BL B b (pre ++ Lib.byteCells t) [] w := by
  unfold BL at *
  simpa [Lib.byteCells] using h
theorem BL.new (w : World) : BL w.heap.size w.heap.size [] [] (w.alloc (.cells #[.pointer none, .slice none 0 0] 58)) :=
  .inl ⟨Nat.le_refl _, _, heap_alloc_new w _, World.ownsRowF_nil _ _ _ _, by simp [Value.ownBlock]⟩
theorem lv_of {P : List Tm} {t : Tm} (h : t ∈ P) : lvM t.2 ≤ lvL P := by
  have key : ∀ (l : List Tm) (a : Int), a ≤ l.foldl (fun a t => max a (lvM t.2)) a ∧ ∀ t ∈ l, lvM t.2 ≤ l.foldl (fun a t => max a (lvM t.2)) a := by
    intro l
    induction l with
    | nil => intro a; exact ⟨Int.le_refl _, fun t ht => by cases ht⟩
    | cons s l ih =>
      intro a
      obtain ⟨h1, h2⟩ := ih (max a (lvM s.2))
      rw [List.foldl_cons]
      refine ⟨by omega, fun t ht => ?_⟩
      rcases List.mem_cons.1 ht with rfl | ht
      · omega
      · exact h2 t ht
  exact (key P 0).2 t h
theorem lvM_gt {m : Mo} (hv : vld m = true) {j : Nat} (hj : j < 4) (h : gt m j ≠ 0) : (j : Int) < lvM m := by
  rw [vld_iff] at hv
  unfold lvM
  rcases (by omega : j = 0 ∨ j = 1 ∨ j = 2 ∨ j = 3) with rfl | rfl | rfl | rfl <;> simp only [gt] at h <;> (repeat' split) <;> omega
theorem gt_bd {m : Mo} {E : Int} (hv : vld m = true) (hm : MB E m) (j : Nat) (hj : j < 4) : 0 ≤ gt m j ∧ gt m j ≤ E := by
  rw [vld_iff] at hv
  unfold MB at hm
  rcases (by omega : j = 0 ∨ j = 1 ∨ j = 2 ∨ j = 3) with rfl | rfl | rfl | rfl <;> simp only [gt] <;> omega

/-- what Format hands back for the canonical form P -/
def fmtV (ls : List Bs) (P : List Tm) : Value := if (ls.length : Int) < lvL P then .tuple #[.string ⟨#[]⟩, .int .i64 4] else .tuple #[.string ⟨(fmtS ls P).toArray⟩, .int .i64 0]
def FmtRes (G : Mo → Int) (ls : List Bs) (w : World) (e : Ending) (w' : World) : Prop :=
  ((namesB ls = false ∧ e = .returned (.tuple #[.string ⟨#[]⟩, .int .i64 1])) ∨ (namesB ls = true ∧ ∃ P, Canon P ∧ (∀ m, cf P m = G m) ∧ (lvL P ≤ (ls.length : Int) → (fmtS ls P).length ≤ 100000000) ∧ e = .returned (fmtV ls P))) ∧ Below w.heap.size w w'
theorem sgn_neg {z : Int} (h : z < 0) : sgnOf z < 0 := by unfold sgnOf; rw [if_pos h]; omega
theorem sgn_nn {z : Int} (h : ¬ z < 0) : ¬ sgnOf z < 0 := by unfold sgnOf; rw [if_neg h]; split <;> omega

set_option maxHeartbeats 4000000 in
set_option maxRecDepth 100000 in
theorem Format_any (A A' : Option Addr) (c c' B N : Nat) (E : Int) (M : Nat) (ps : List PT) (ls : List Bs) (w : World) (hB : B ≤ w.heap.size) (h : PIn w B A ps N E M) (hN : N ≤ 10000) (hM : M < Big) (hE : E ≤ 4398046511104) (hn : NIn w B A' c' ls) (htab : TabT w) :
    Calls Tryz.prog 12 #[.slice A ps.length c, .slice A' ls.length c'] w (FmtRes (cf (ps.map PT.tm)) ls w) := by
  have HCK := Lib.hid (check_any A A' c c' B N E M ps ls w hB h (by omega) hM hn)
  have HNI := Lib.hid hn; have HT := Lib.hid htab
  generalize hG : cf (ps.map PT.tm) = G at *
  have HG := Lib.hid hG
  clear h hn hG htab
  go_enter Tryz.func12, Tryz.ntmps12
  go_wp2_with fail
  refine HCK.out.mono ?_
  rintro e w1 ⟨hc, hb1⟩
  have HB1 := Lib.hid hb1
  rcases hc with ⟨hf, rfl⟩ | ⟨ht, hP, rfl⟩ | ⟨ht, A1, c1, qs, rfl, hlv, hgd⟩
  · have HF := Lib.hid hf
    clear hf hb1
    go_wp2_with fail
    go_ret2
    exact ⟨.inl ⟨HF.out, rfl⟩, HB1.out⟩
  · have HF := Lib.hid ht
    have HP := Lib.hid hP
    clear ht hP hb1
    go_wp2_with fail
    go_ret2
    obtain ⟨P, h1, h2, h3⟩ := HP.out
    exact ⟨.inr ⟨HF.out, P, h1, h2, fun h => by omega, by unfold fmtV; rw [if_pos h3]; rfl⟩, HB1.out⟩
  · have HF := Lib.hid ht
    have HV := Lib.hid (show Canon (qs.map PT.tm) ∧ (∀ m, cf (qs.map PT.tm) m = G m) ∧ fmtV ls (qs.map PT.tm) = .tuple #[.string ⟨(fmtS ls (qs.map PT.tm)).toArray⟩, .int .i64 0] from ⟨hgd.can, hgd.cf, by unfold fmtV; rw [if_neg (by omega)]⟩)
    have hok := namesB_ok ht
    have HNS := Lib.hid (show ∀ n ∈ ls, n.length ≤ 16 from fun n hn => (nameB_len (hok.2 n hn)).2)
    have HLL := Lib.hid hok.1
    have HPT := Lib.hid (show ∀ p ∈ qs, p.ds.length ≤ 600 ∧ WfM p.m ∧ (∀ j, j < 4 → 0 ≤ gt p.m j ∧ gt p.m j ≤ 4398046511104) ∧ (∀ j, j < 4 → gt p.m j ≠ 0 → j < ls.length) ∧ (Lib.decDigits (ival p.ng p.ds).natAbs).length ≤ 6001 from fun p hp => by
      have h1 := hgd.vl hp
      have h2 := hgd.mb p hp
      refine ⟨hgd.dlen (k := 600) hM hp, h2.wf h1 (by omega), fun j hj => ?_, fun j hj hne => ?_, decD_pw (Nat.lt_of_le_of_lt (Nat.le_trans (nrm_mem (List.mem_map.2 ⟨p, hp, rfl⟩ : p.tm ∈ qs.map PT.tm)) hgd.nm) hM)⟩
      · have := gt_bd h1 h2 j hj; omega
      · have := lvM_gt h1 hj hne
        have := lv_of (List.mem_map.2 ⟨p, hp, rfl⟩ : p.tm ∈ qs.map PT.tm)
        have e : p.tm.2 = p.m := rfl
        rw [e] at this
        omega)
    have hpin := hgd.pin (by omega) hM
    have hqn := hgd.len
    have hni := (HNI.out.below (hb1.mono hB)).more (Nat.le_trans hB hb1.size)
    have htb := (HT.out.on hb1).b
    have HPI := Lib.hid hpin; have HNI1 := Lib.hid hni; have HTB := Lib.hid htb
    clear ht hlv hgd hok hb1 hpin hni htb
    have HFL := Lib.hid (show ∀ k, (fmtGo ls true ((qs.take k).map PT.tm)).length ≤ 10000 * 6128 from fun k => by
      have h1 := fmtGo_len (ns := ls) HNS.out (K := 6001) ((qs.take k).map PT.tm) true (fun t ht => by
        obtain ⟨p, hp, rfl⟩ := List.mem_map.1 ht
        have h := HPT.out p (List.mem_of_mem_take hp)
        exact ⟨h.2.2.2.2, fun j hj => (h.2.2.1 j hj).2⟩)
      have h2 : ((qs.take k).map PT.tm).length ≤ 10000 := by simp; omega
      exact Nat.le_trans h1 (Nat.mul_le_mul_right _ h2))
    rcases Nat.eq_zero_or_pos qs.length with h0 | h0
    · obtain rfl : qs = [] := List.eq_nil_of_length_eq_zero h0
      clear h0 hqn
      go_wp2_with fail
      go_ret2
      exact ⟨.inr ⟨HF.out, _, HV.out.1, HV.out.2.1, fun _ => by simp [fmtS], by rw [HV.out.2.2]; rfl⟩, HB1.out⟩
    · have h0b : ((qs.length : Int) == 0) = false := by simp; intro e; rw [e] at h0; simp at h0
      generalize hqs : qs.length = n at *
      have HQS := Lib.hid hqs
      clear hqs
      go_wp2_with fail
      have hbl := BL.new w1
      have hwr : Wr w1.heap.size w1.heap.size w1 (w1.alloc (.cells #[.pointer none, .slice none 0 0] 58)) := (Wr.refl _ _ _).alloc (Nat.le_refl _) _
      generalize hwb : w1.alloc (.cells #[.pointer none, .slice none 0 0] 58) = wb at *
      clear hwb
      generalize hbb : w1.heap.size = b at *
      have HBB := Lib.hid hbb
      clear hbb
      go_loopg [9, 10, 11, 26, 35, 42, 49] n (fun gn _ _ _ ix _ _ _ wr => ∃ k : Nat, k ≤ n ∧ gn = n - k ∧ ix = .int .i64 k ∧ BL b b [] (fmtGo ls true ((qs.take k).map PT.tm)) wr ∧ Wr b b w1 wr)
      case atStart => exact ⟨0, by omega, rfl, rfl, hbl, hwr⟩
      case round =>
        clear hbl hwr
        obtain ⟨k, hk, hgk, rfl, hbd, hwr⟩ := hrel
        have HGK := Lib.hid hgk
        clear hgk
        have hz : b ≤ wr.heap.size := by have := hwr.1.size; rw [HBB.out] at this; exact this
        by_cases hlt : k < n
        · obtain ⟨p, hp⟩ : ∃ p, qs[k]? = some p := ⟨_, List.getElem?_eq_getElem (by have := HQS.out; omega)⟩
          have hpm := List.mem_of_getElem? hp
          have hin := HPI.out.below hwr.1
          obtain ⟨b1, o1, rfl, q1, c0, c1', c2, c3, c4, c5⟩ := hin.pin.at_ hp
          have hnt := hin.pin.nt p hpm
          have hpf := HPT.out p hpm
          have HPF := Lib.hid hpf
          have i1 : (k : Int) < (n : Int) := by omega
          have i0 : (0 : Int) ≤ (k : Int) := by omega
          have HSN := Lib.hid (fmtGo_snoc ls p.tm ((qs.take k).map PT.tm) true)
          have HTK := Lib.hid (take_snoc_tm hp)
          have HFK := Lib.hid (HFL.out k)
          have HTM := Lib.hid (show p.tm.1 = ival p.ng p.ds ∧ p.tm.1.natAbs = val p.ds ∧ p.tm.2 = p.m from ⟨rfl, ival_abs _ _, rfl⟩)
          have HEM := Lib.hid (show ((qs.take k).map PT.tm).isEmpty = decide (k = 0) by
            by_cases hk0 : k = 0
            · subst hk0; rfl
            · rw [decide_eq_false hk0, List.isEmpty_eq_false_iff]
              intro e
              have e2 := congrArg List.length e
              rw [List.length_map, List.length_take, HQS.out] at e2
              simp at e2
              omega)
          generalize fmtGo ls true ((qs.take k).map PT.tm) = tx at *
          have HNT := Lib.hid hnt
          have hdl := hpf.1
          clear hpf hin hnt hp hpm
          have HSG := Lib.hid (fun (W : World) (hW : Below wr.heap.size wr W) => Sign_any p.ng p.A p.c b p.ds W (Nat.le_trans hz hW.size) (HNT.out.below (hW.mono hz)) (by omega))
          have HWT := Lib.hid (fun (pre : List Value) (W : World) (hW : Wr b b w1 W) (hzW : b ≤ W.heap.size) (hbW : BL b b pre [] W) (hpre : pre.length ≤ 900000000) (hnW : NatIn W b p.A p.c p.ds) =>
            writeTerm_any b b pre p A' c' ls W hbW hzW hnW (by omega) (HNI1.out.below hW.1).rd HNS.out hpre HPF.out.2.1 HPF.out.2.2.1 HPF.out.2.2.2.1 (HTB.out.on hW.1))
          simp only [PT.cells] at HWT
          have q2 : b1 < wr.heap.size := by omega
          have hkp := Blk.new wr 47 (PT.cells p).toArray
          simp only [PT.cells] at hkp
          have hwp := (Wr.of_below (B := b) (b := b) hz ((Below.refl wr.heap.size wr).alloc (Nat.le_refl _) (.cells #[.bool p.ng, .slice p.A p.ds.length p.c, .int .i64 p.m.1, .int .i64 p.m.2.1, .int .i64 p.m.2.2.1, .int .i64 p.m.2.2.2] 47)))
          have s1 := @sgn_neg (ival p.ng p.ds)
          have s2 := @sgn_nn (ival p.ng p.ds)
          have S1 := Lib.hid s1; have S2 := Lib.hid s2
          clear s1 s2
          by_cases hneg : ival p.ng p.ds < 0
          · have hsg := S1.out hneg
            have HNG := Lib.hid (show decide (ival p.ng p.ds < 0) = true by simpa using hneg)
            clear S1 S2
            by_cases hk0 : k = 0
            · have hk0b : ((k : Int) == 0) = true := by simp; omega
              have hk0c : ¬ (0 : Int) < (k : Int) := by omega
              have HK0 := Lib.hid (show decide (k = 0) = true by simpa using hk0)
              clear hk0 hneg
              go_wp2_with fail
              refine (HSG.out _ ((Below.refl _ _).alloc (Nat.le_refl _) _)).mono ?_
              rintro e w2 ⟨rfl, hw2⟩
              have hb2 : Below wr.heap.size wr w2 := by rw [hw2]; exact ((Below.refl _ _).alloc (Nat.le_refl _) _).alloc (by simp) _
              have hk2 : Blk w2 wr.heap.size 47 #[.bool p.ng, .slice p.A p.ds.length p.c, .int .i64 p.m.1, .int .i64 p.m.2.1, .int .i64 p.m.2.2.1, .int .i64 p.m.2.2.2] := by rw [hw2]; exact hkp.alloc _
              have hwr2 := hwr.old hz hb2
              have hbd2 := hbd.old hb2
              have hnt2 := HNT.out.below (hb2.mono hz)
              have hz2 := Nat.le_trans hz hb2.size
              have hlb := hbd.lt
              clear hw2 hb2 hwr hbd c0 c1' c2 c3 c4 c5 hkp hwp
              have HWS := Lib.hid (WS_any b b [] tx [45] w2 hbd2 (by have := HFK.out; simp; omega) hz2)
              go_wp2_with fail
              refine HWS.out.mono ?_
              rintro e w3 ⟨rfl, hbd3, hwr3⟩
              have hk3 := hwr3.blk hk2 (by omega) (by decide)
              have hwr3' := hwr2.trans hwr3
              have hnt3 := hnt2.below hwr3.1
              have hz3 := Nat.le_trans hz2 hwr3.1.size
              clear hwr3 hbd2 hk2 hnt2 hwr2
              have e0 : w3.cell? ⟨wr.heap.size, 0, none⟩ = some (.bool p.ng) := hk3.cell 0
              have e1 : w3.cell? ⟨wr.heap.size, 1, none⟩ = some (.slice p.A p.ds.length p.c) := hk3.cell 1
              have e2 : w3.cell? ⟨wr.heap.size, 2, none⟩ = some (.int .i64 p.m.1) := hk3.cell 2
              have e3 : w3.cell? ⟨wr.heap.size, 3, none⟩ = some (.int .i64 p.m.2.1) := hk3.cell 3
              have e4 : w3.cell? ⟨wr.heap.size, 4, none⟩ = some (.int .i64 p.m.2.2.1) := hk3.cell 4
              have e5 : w3.cell? ⟨wr.heap.size, 5, none⟩ = some (.int .i64 p.m.2.2.2) := hk3.cell 5
              have HW := Lib.hid (HWT.out _ w3 hwr3' hz3 hbd3.take (by have := HFK.out; rw [List.length_append, Lib.byteCells_length]; simp; omega) hnt3)
              clear hbd3 hnt3
              go_wp2_with fail
              refine HW.out.mono ?_
              rintro e w4 ⟨rfl, hbd4, hwr4⟩
              have hwr4' := hwr3'.trans hwr4
              have hbd4' := hbd4.put
              clear hwr4 hwr3' hbd4 e0 e1 e2 e3 e4 e5 hk3
              go_wp2_with fail
              go_roundg (n - (k + 1))
              case rel =>
                refine ⟨k + 1, by omega, rfl, by go_num, ?_, hwr4'⟩
                rw [HTK.out, HSN.out, HEM.out, HTM.out.1, ival_abs, HTM.out.2.2, HK0.out, HNG.out]
                exact hbd4'
              case measure => have := HGK.out; omega
            · have hk0b : ((k : Int) == 0) = false := by simp; omega
              have hk0c : (0 : Int) < (k : Int) := by omega
              have HK0 := Lib.hid (show decide (k = 0) = false by simpa using hk0)
              clear hk0 hneg
              go_wp2_with fail
              refine (HSG.out _ ((Below.refl _ _).alloc (Nat.le_refl _) _)).mono ?_
              rintro e w2 ⟨rfl, hw2⟩
              have hb2 : Below wr.heap.size wr w2 := by rw [hw2]; exact ((Below.refl _ _).alloc (Nat.le_refl _) _).alloc (by simp) _
              have hk2 : Blk w2 wr.heap.size 47 #[.bool p.ng, .slice p.A p.ds.length p.c, .int .i64 p.m.1, .int .i64 p.m.2.1, .int .i64 p.m.2.2.1, .int .i64 p.m.2.2.2] := by rw [hw2]; exact hkp.alloc _
              have hwr2 := hwr.old hz hb2
              have hbd2 := hbd.old hb2
              have hnt2 := HNT.out.below (hb2.mono hz)
              have hz2 := Nat.le_trans hz hb2.size
              have hlb := hbd.lt
              clear hw2 hb2 hwr hbd c0 c1' c2 c3 c4 c5 hkp hwp
              have HWS := Lib.hid (WS_any b b [] tx [32, 45, 32] w2 hbd2 (by have := HFK.out; simp; omega) hz2)
              go_wp2_with fail
              refine HWS.out.mono ?_
              rintro e w3 ⟨rfl, hbd3, hwr3⟩
              have hk3 := hwr3.blk hk2 (by omega) (by decide)
              have hwr3' := hwr2.trans hwr3
              have hnt3 := hnt2.below hwr3.1
              have hz3 := Nat.le_trans hz2 hwr3.1.size
              clear hwr3 hbd2 hk2 hnt2 hwr2
              have e0 : w3.cell? ⟨wr.heap.size, 0, none⟩ = some (.bool p.ng) := hk3.cell 0
              have e1 : w3.cell? ⟨wr.heap.size, 1, none⟩ = some (.slice p.A p.ds.length p.c) := hk3.cell 1
              have e2 : w3.cell? ⟨wr.heap.size, 2, none⟩ = some (.int .i64 p.m.1) := hk3.cell 2
              have e3 : w3.cell? ⟨wr.heap.size, 3, none⟩ = some (.int .i64 p.m.2.1) := hk3.cell 3
              have e4 : w3.cell? ⟨wr.heap.size, 4, none⟩ = some (.int .i64 p.m.2.2.1) := hk3.cell 4
              have e5 : w3.cell? ⟨wr.heap.size, 5, none⟩ = some (.int .i64 p.m.2.2.2) := hk3.cell 5
              have HW := Lib.hid (HWT.out _ w3 hwr3' hz3 hbd3.take (by have := HFK.out; rw [List.length_append, Lib.byteCells_length]; simp; omega) hnt3)
              clear hbd3 hnt3
              go_wp2_with fail
              refine HW.out.mono ?_
              rintro e w4 ⟨rfl, hbd4, hwr4⟩
              have hwr4' := hwr3'.trans hwr4
              have hbd4' := hbd4.put
              clear hwr4 hwr3' hbd4 e0 e1 e2 e3 e4 e5 hk3
              go_wp2_with fail
              go_roundg (n - (k + 1))
              case rel =>
                refine ⟨k + 1, by omega, rfl, by go_num, ?_, hwr4'⟩
                rw [HTK.out, HSN.out, HEM.out, HTM.out.1, ival_abs, HTM.out.2.2, HK0.out, HNG.out]
                exact hbd4'
              case measure => have := HGK.out; omega
          · have hsg := S2.out hneg
            have HNG := Lib.hid (show decide (ival p.ng p.ds < 0) = false by simpa using hneg)
            clear S1 S2
            by_cases hk0 : k = 0
            · have hk0b : ((k : Int) == 0) = true := by simp; omega
              have hk0c : ¬ (0 : Int) < (k : Int) := by omega
              have HK0 := Lib.hid (show decide (k = 0) = true by simpa using hk0)
              clear hk0 hneg
              go_wp2_with fail
              refine (HSG.out _ ((Below.refl _ _).alloc (Nat.le_refl _) _)).mono ?_
              rintro e w2 ⟨rfl, hw2⟩
              have hb2 : Below wr.heap.size wr w2 := by rw [hw2]; exact ((Below.refl _ _).alloc (Nat.le_refl _) _).alloc (by simp) _
              have hk2 : Blk w2 wr.heap.size 47 #[.bool p.ng, .slice p.A p.ds.length p.c, .int .i64 p.m.1, .int .i64 p.m.2.1, .int .i64 p.m.2.2.1, .int .i64 p.m.2.2.2] := by rw [hw2]; exact hkp.alloc _
              have hwr2 := hwr.old hz hb2
              have hbd2 := hbd.old hb2
              have hnt2 := HNT.out.below (hb2.mono hz)
              have hz2 := Nat.le_trans hz hb2.size
              have hlb := hbd.lt
              clear hw2 hb2 hwr hbd c0 c1' c2 c3 c4 c5 hkp hwp
              have hk3 := hk2
              have hwr3' := hwr2
              have hnt3 := hnt2
              have hz3 := hz2
              have hbd3 : BL b b [] (tx ++ []) w2 := by rw [List.append_nil]; exact hbd2
              obtain ⟨w3, rfl⟩ : ∃ w3, w3 = w2 := ⟨_, rfl⟩
              clear hbd2 hk2 hnt2 hwr2 hz2
              have e0 : w3.cell? ⟨wr.heap.size, 0, none⟩ = some (.bool p.ng) := hk3.cell 0
              have e1 : w3.cell? ⟨wr.heap.size, 1, none⟩ = some (.slice p.A p.ds.length p.c) := hk3.cell 1
              have e2 : w3.cell? ⟨wr.heap.size, 2, none⟩ = some (.int .i64 p.m.1) := hk3.cell 2
              have e3 : w3.cell? ⟨wr.heap.size, 3, none⟩ = some (.int .i64 p.m.2.1) := hk3.cell 3
              have e4 : w3.cell? ⟨wr.heap.size, 4, none⟩ = some (.int .i64 p.m.2.2.1) := hk3.cell 4
              have e5 : w3.cell? ⟨wr.heap.size, 5, none⟩ = some (.int .i64 p.m.2.2.2) := hk3.cell 5
              have HW := Lib.hid (HWT.out _ w3 hwr3' hz3 hbd3.take (by have := HFK.out; rw [List.length_append, Lib.byteCells_length]; simp; omega) hnt3)
              clear hbd3 hnt3
              go_wp2_with fail
              refine HW.out.mono ?_
              rintro e w4 ⟨rfl, hbd4, hwr4⟩
              have hwr4' := hwr3'.trans hwr4
              have hbd4' := hbd4.put
              clear hwr4 hwr3' hbd4 e0 e1 e2 e3 e4 e5 hk3
              go_wp2_with fail
              go_roundg (n - (k + 1))
              case rel =>
                refine ⟨k + 1, by omega, rfl, by go_num, ?_, hwr4'⟩
                rw [HTK.out, HSN.out, HEM.out, HTM.out.1, ival_abs, HTM.out.2.2, HK0.out, HNG.out]
                exact hbd4'
              case measure => have := HGK.out; omega
            · have hk0b : ((k : Int) == 0) = false := by simp; omega
              have hk0c : (0 : Int) < (k : Int) := by omega
              have HK0 := Lib.hid (show decide (k = 0) = false by simpa using hk0)
              clear hk0 hneg
              go_wp2_with fail
              refine (HSG.out _ ((Below.refl _ _).alloc (Nat.le_refl _) _)).mono ?_
              rintro e w2 ⟨rfl, hw2⟩
              have hb2 : Below wr.heap.size wr w2 := by rw [hw2]; exact ((Below.refl _ _).alloc (Nat.le_refl _) _).alloc (by simp) _
              have hk2 : Blk w2 wr.heap.size 47 #[.bool p.ng, .slice p.A p.ds.length p.c, .int .i64 p.m.1, .int .i64 p.m.2.1, .int .i64 p.m.2.2.1, .int .i64 p.m.2.2.2] := by rw [hw2]; exact hkp.alloc _
              have hwr2 := hwr.old hz hb2
              have hbd2 := hbd.old hb2
              have hnt2 := HNT.out.below (hb2.mono hz)
              have hz2 := Nat.le_trans hz hb2.size
              have hlb := hbd.lt
              clear hw2 hb2 hwr hbd c0 c1' c2 c3 c4 c5 hkp hwp
              have HWS := Lib.hid (WS_any b b [] tx [32, 43, 32] w2 hbd2 (by have := HFK.out; simp; omega) hz2)
              go_wp2_with fail
              refine HWS.out.mono ?_
              rintro e w3 ⟨rfl, hbd3, hwr3⟩
              have hk3 := hwr3.blk hk2 (by omega) (by decide)
              have hwr3' := hwr2.trans hwr3
              have hnt3 := hnt2.below hwr3.1
              have hz3 := Nat.le_trans hz2 hwr3.1.size
              clear hwr3 hbd2 hk2 hnt2 hwr2
              have e0 : w3.cell? ⟨wr.heap.size, 0, none⟩ = some (.bool p.ng) := hk3.cell 0
              have e1 : w3.cell? ⟨wr.heap.size, 1, none⟩ = some (.slice p.A p.ds.length p.c) := hk3.cell 1
              have e2 : w3.cell? ⟨wr.heap.size, 2, none⟩ = some (.int .i64 p.m.1) := hk3.cell 2
              have e3 : w3.cell? ⟨wr.heap.size, 3, none⟩ = some (.int .i64 p.m.2.1) := hk3.cell 3
              have e4 : w3.cell? ⟨wr.heap.size, 4, none⟩ = some (.int .i64 p.m.2.2.1) := hk3.cell 4
              have e5 : w3.cell? ⟨wr.heap.size, 5, none⟩ = some (.int .i64 p.m.2.2.2) := hk3.cell 5
              have HW := Lib.hid (HWT.out _ w3 hwr3' hz3 hbd3.take (by have := HFK.out; rw [List.length_append, Lib.byteCells_length]; simp; omega) hnt3)
              clear hbd3 hnt3
              go_wp2_with fail
              refine HW.out.mono ?_
              rintro e w4 ⟨rfl, hbd4, hwr4⟩
              have hwr4' := hwr3'.trans hwr4
              have hbd4' := hbd4.put
              clear hwr4 hwr3' hbd4 e0 e1 e2 e3 e4 e5 hk3
              go_wp2_with fail
              go_roundg (n - (k + 1))
              case rel =>
                refine ⟨k + 1, by omega, rfl, by go_num, ?_, hwr4'⟩
                rw [HTK.out, HSN.out, HEM.out, HTM.out.1, ival_abs, HTM.out.2.2, HK0.out, HNG.out]
                exact hbd4'
              case measure => have := HGK.out; omega
        · obtain rfl : k = n := by omega
          have hfull : (qs.take k).map PT.tm = qs.map PT.tm := by rw [← HQS.out, List.take_length]
          rw [hfull] at hbd
          have HBS := Lib.hid (Tryz.Builder_String_any_k b b (fmtGo ls true (qs.map PT.tm)) wr (by unfold BL at hbd; simpa using hbd) hz)
          have HFS := Lib.hid (show fmtS ls (qs.map PT.tm) = fmtGo ls true (qs.map PT.tm) by
            unfold fmtS
            rw [if_neg (fun e => by have := congrArg List.length e; rw [List.length_map, HQS.out] at this; simp at this; omega)])
          have htl := HFL.out k
          rw [hfull] at htl
          have HTL := Lib.hid htl
          generalize fmtGo ls true (qs.map PT.tm) = tx at *
          clear hfull htl
          go_wp2_with fail
          refine HBS.out.mono ?_
          rintro e w5 ⟨rfl, -, hb5, -⟩
          go_wp2_with fail
          go_ret2
          refine ⟨.inr ⟨HF.out, _, HV.out.1, HV.out.2.1, fun _ => by rw [HFS.out]; have := HTL.out; omega, by rw [HV.out.2.2, HFS.out]; rfl⟩, HB1.out.trans ((hwr.1.trans hb5).mono (by have := HBB.out; have := HB1.out.size; omega))⟩
end Go.Proofs.YtnghlhcekghciaaGreatDoor
