/- The reference's read of a term. -/
import Derived.BigQuiet
import Derived.Deep.DeepCutAuto
import Derived.Test.YtnghlhcekghciaaGreatDoorZD
namespace Go.Proofs.YtnghlhcekghciaaGreatDoor
open Go.RowKit

/-! ### what it reads -/
def laTo (ls : List Bs) (x : Bs) : Nat → Int
  | 0 => -1
  | j + 1 => if (ls.getD j [] == x) = true then (j : Int) else laTo ls x j
theorem laTo_range (ls : List Bs) (x : Bs) : ∀ n, laTo ls x n = -1 ∨ ∃ j : Nat, j < n ∧ laTo ls x n = (j : Int)
  | 0 => .inl rfl
  | n + 1 => by
    rw [laTo]
    split
    · exact .inr ⟨n, by omega, rfl⟩
    · rcases laTo_range ls x n with h | ⟨j, hj, h⟩
      · exact .inl h
      · exact .inr ⟨j, by omega, h⟩
def rexp (Q : List Bs) : Option Int :=
  if Q.length = 2 then (if (Q.getD 1 []).all isd = true ∧ 0 < (Q.getD 1 []).length ∧ decV (Q.getD 1 []) ≤ 1073741824 then some (decV (Q.getD 1 []) : Int) else none) else some 1
def rfac (ls : List Bs) (p : Bs) (m : Mo) : Option Mo := match rexp (spl 94 p) with
  | none => none
  | some x => if laTo ls ((spl 94 p).getD 0 []) ls.length < 0 ∨ 2 < (spl 94 p).length ∨ gt m (laTo ls ((spl 94 p).getD 0 []) ls.length).toNat ≠ 0 then none else some (addAt m (laTo ls ((spl 94 p).getD 0 []) ls.length).toNat x)
def dok (p : Bs) : Bool := p.all isd && decide (0 < p.length)
def rGo (ls : List Bs) : Bool → List Bs → Nat → Mo → Option (Nat × Mo)
  | _, [], c, m => some (c, m)
  | b, p :: ps, c, m => if (dok p && b) = true then rGo ls false ps (decV p) m else match rfac ls p m with
    | none => none
    | some m' => rGo ls false ps c m'
def rRead (ls : List Bs) (t : Bs) : Option (Nat × Mo) := rGo ls true (spl 42 t) 1 (0, 0, 0, 0)
theorem DigRes.dok {p : Bs} {w w' : World} {e : Ending} (h : DigRes p w e w') : ∃ v, e = .returned (.tuple #[v, .bool (dok p)]) ∧ (dok p = true → ∃ A c, v = .slice A (dig (decV p)).length c ∧ w'.ownsRow w.heap.size 39 1 (.slice A (dig (decV p)).length c) (dig (decV p)).length (u32s (dig (decV p)))) ∧ Below w.heap.size w w' := by
  obtain ⟨⟨ha, A, c, he, ho⟩ | ⟨ha, he⟩, hb⟩ := h
  · exact ⟨_, by rw [he, Go.Proofs.YtnghlhcekghciaaGreatDoor.dok, ha, Bool.true_and], fun _ => ⟨A, c, rfl, ho⟩, hb⟩
  · exact ⟨_, by rw [he, Go.Proofs.YtnghlhcekghciaaGreatDoor.dok, ha, Bool.false_and], fun h => by (rw [Go.Proofs.YtnghlhcekghciaaGreatDoor.dok, ha, Bool.false_and] at h; cases h), hb⟩
theorem rexp_two {Q : List Bs} (h : Q.length = 2) : rexp Q = if dok (Q.getD 1 []) = true ∧ decV (Q.getD 1 []) ≤ 1073741824 then some (decV (Q.getD 1 []) : Int) else none := by
  unfold rexp dok
  rw [if_pos h]
  simp only [Bool.and_eq_true, decide_eq_true_eq, and_assoc]
theorem rexp_one {Q : List Bs} (h : Q.length ≠ 2) : rexp Q = some 1 := by
  unfold rexp
  rw [if_neg h]
theorem dig_uno {n : Nat} (h0 : n ≠ 0) (h1 : n < 4294967296) : dig n = [n] := by
  rw [dig_pos h0, Nat.div_eq_of_lt h1, dig_zero, Nat.mod_eq_of_lt h1]
theorem dig_duo {n : Nat} (h : 4294967296 ≤ n) : 2 ≤ (dig n).length := by
  rw [dig_pos (by omega), List.length_cons]
  have : 0 < (dig (n / 4294967296)).length := dig_len_pos.2 (by omega)
  omega
theorem dig_one : dig 1 = [1] := by rw [dig_pos (by decide), show 1 / 4294967296 = 0 by decide, dig_zero]

/-! ### the state of the walk -/
abbrev Z6 : Array Value := #[.bool false, .slice none 0 0, .int .i64 0, .int .i64 0, .int .i64 0, .int .i64 0]
structure RSt (w : World) (g0 gs bs : Nat) (Ap : Option Addr) (cp : Nat) (P : List Bs) (A : Option Addr) (c x : Nat) (m : Mo) (wr : World) : Prop where
  t : Blk wr gs 47 (cellsT false A (dig x).length c m)
  z : Blk wr g0 47 Z6
  n : NatK wr A (dig x)
  cc : (dig x).length ≤ c
  row : wr.ownsRow bs 9 1 (.slice Ap P.length cp) P.length (P.map strV)
  bl : Below g0 w wr
  lt : g0 < gs ∧ gs < bs
theorem RSt.old {w : World} {g0 gs bs : Nat} {Ap : Option Addr} {cp : Nat} {P : List Bs} {A : Option Addr} {c x : Nat} {m : Mo} {wr w' : World} (h : RSt w g0 gs bs Ap cp P A c x m wr) (hw : w.heap.size = g0) (hb : Below wr.heap.size wr w') : RSt w g0 gs bs Ap cp P A c x m w' :=
  ⟨h.t.old hb, h.z.old hb, h.n.old hb, h.cc, own_after h.row hb, h.bl.trans (hb.mono (by have := h.bl.size; omega)), h.lt⟩
theorem RSt.free {w : World} {g0 gs bs : Nat} {Ap : Option Addr} {cp : Nat} {P : List Bs} {A : Option Addr} {c x : Nat} {m : Mo} {wr : World} (h : RSt w g0 gs bs Ap cp P A c x m wr) : (Value.slice Ap P.length cp).ownBlock ≠ some gs := fun e => by
  have := own_ge h.row e
  have := h.lt
  omega
theorem RSt.coef {w : World} {g0 gs bs : Nat} {Ap : Option Addr} {cp : Nat} {P : List Bs} {A A' : Option Addr} {c c' x x' : Nat} {m : Mo} {wr : World} (h : RSt w g0 gs bs Ap cp P A c x m wr) (hn : NatK wr A' (dig x')) (hc : (dig x').length ≤ c') :
    RSt w g0 gs bs Ap cp P A' c' x' m (wr.setCell ⟨gs, 1, none⟩ (.slice A' (dig x').length c')) where
  t := h.t.set_ 1 _
  z := h.z.far (p := ⟨gs, 1, none⟩) (by have := h.lt; simp; omega) _
  n := hn.far h.t (by decide) 1 _
  cc := hc
  row := own_far h.row h.free _
  bl := h.bl.setCell (p := ⟨gs, 1, none⟩) (by have := h.lt; simp; omega) _
  lt := h.lt
theorem RSt.exp {w : World} {g0 gs bs : Nat} {Ap : Option Addr} {cp : Nat} {P : List Bs} {A : Option Addr} {c x : Nat} {m : Mo} {wr : World} (h : RSt w g0 gs bs Ap cp P A c x m wr) {j : Nat} (hj : j < 4) (h0 : gt m j = 0) (y : Int) :
    RSt w g0 gs bs Ap cp P A c x (addAt m j y) (wr.setCell ⟨gs, 2 + j, none⟩ (.int .i64 y)) where
  t := by
    have := h.t.set_ (2 + j) (.int .i64 (gt m j + y))
    rw [cellsT_add _ _ _ _ _ hj, h0, Int.zero_add] at this
    exact this
  z := h.z.far (p := ⟨gs, 2 + j, none⟩) (by have := h.lt; simp; omega) _
  n := h.n.far h.t (by decide) (2 + j) _
  cc := h.cc
  row := own_far h.row h.free _
  bl := h.bl.setCell (p := ⟨gs, 2 + j, none⟩) (by have := h.lt; simp; omega) _
  lt := h.lt
def RReadRes (o : Option (Nat × Mo)) (w : World) (e : Ending) (w' : World) : Prop :=
  ((o = none ∧ ∃ A n c m, e = .returned (.tuple #[.agg (cellsT false A n c m), .bool false])) ∨
    ∃ x m, o = some (x, m) ∧ ∃ A c, e = .returned (.tuple #[.agg (cellsT false A (dig x).length c m), .bool true]) ∧ (dig x).length ≤ c ∧ NatK w' A (dig x)) ∧ Below w.heap.size w w'

set_option maxHeartbeats 4000000 in
set_option maxRecDepth 100000 in
theorem RRead_any (t : Bs) (A : Option Addr) (c B : Nat) (ls : List Bs) (w : World) (ht : t.length ≤ 100000) (hB : B ≤ w.heap.size) (hl : Reads w B 1 A ls.length (ls.map strV)) (h4 : ls.length ≤ 4) :
    Calls Tryz.prog 20 #[.string ⟨t.toArray⟩, .slice A ls.length c] w (RReadRes (rRead ls t) w) := by
  have HW0 : Hid (∀ W, W = ((w.alloc (.cells Z6 47)).alloc (.cells #[.int .u32 1] 39)).alloc (.cells (cellsT false (some ⟨w.heap.size + 1, 0, none⟩) 1 1 (0, 0, 0, 0)) 47) → ∀ w1 Ap cp (P : List Bs), w1.ownsRow W.heap.size 9 1 (.slice Ap P.length cp) P.length (P.map strV) → Below W.heap.size W w1 → RSt w w.heap.size (w.heap.size + 1 + 1) (w.heap.size + 1 + 1 + 1) Ap cp P (some ⟨w.heap.size + 1, 0, none⟩) 1 1 (0, 0, 0, 0) w1) := Lib.hid (fun W hW w1 Ap cp P hrow hb => by
    have e3 : W.heap.size = w.heap.size + 3 := by rw [hW]; simp
    have e2 : ((w.alloc (.cells Z6 47)).alloc (.cells #[.int .u32 1] 39)).heap.size = w.heap.size + 2 := by simp
    have e1 : (w.alloc (.cells Z6 47)).heap.size = w.heap.size + 1 := by simp
    have b1 := Blk.new ((w.alloc (.cells Z6 47)).alloc (.cells #[.int .u32 1] 39)) 47 (cellsT false (some ⟨w.heap.size + 1, 0, none⟩) 1 1 (0, 0, 0, 0))
    have b2 := (Blk.new (w.alloc (.cells Z6 47)) 39 #[.int .u32 1]).alloc (.cells (cellsT false (some ⟨w.heap.size + 1, 0, none⟩) 1 1 (0, 0, 0, 0)) 47)
    have b3 := ((Blk.new w 47 Z6).alloc (.cells #[.int .u32 1] 39)).alloc (.cells (cellsT false (some ⟨w.heap.size + 1, 0, none⟩) 1 1 (0, 0, 0, 0)) 47)
    have bb := (((Below.refl _ w).alloc (Nat.le_refl _) (.cells Z6 47)).alloc (by simp) (.cells #[.int .u32 1] 39)).alloc (by simp; omega) (.cells (cellsT false (some ⟨w.heap.size + 1, 0, none⟩) 1 1 (0, 0, 0, 0)) 47)
    rw [← hW] at b1 b2 b3 bb
    rw [e2] at b1
    rw [e1] at b2
    rw [e3] at hrow
    have hb' : w.heap.size + 1 + 1 = w.heap.size + 2 := rfl
    have hb' : w.heap.size + 1 + 1 = w.heap.size + 2 := rfl
    have hb' : w.heap.size + 1 + 1 = w.heap.size + 2 := rfl
    have hb' : w.heap.size + 1 + 1 = w.heap.size + 2 := rfl
    have hb' : w.heap.size + 1 + 1 = w.heap.size + 2 := rfl
    exact ⟨by rw [dig_one]; exact b1.old hb, b3.old hb, by rw [dig_one]; exact .inr ⟨_, _, rfl, b2.old hb, rfl⟩, by rw [dig_one]; exact Nat.le_refl _, hrow, bb.trans (hb.mono bb.size), by omega, by omega⟩)
  have HL := Lib.hid (fun (W : World) (hW : Below w.heap.size w W) => hl.below (hW.mono hB))
  have HSP := Lib.hid (fun (W : World) => RSplit_any t 42 W ht)
  have HPE := Lib.hid (show ∀ p ∈ spl 42 t, p.length ≤ t.length by rw [spl_parts]; exact partsS_el 42 t)
  have HPF := Lib.hid (show (spl 42 t).length ≤ 100001 by rw [spl_parts]; have := partsS_few 42 t; omega)
  have HRO := Lib.hid (show rRead ls t = rGo ls true ((spl 42 t).drop 0) 1 (0, 0, 0, 0) from rfl)
  clear hl
  generalize rRead ls t = o at *
  generalize spl 42 t = P at *
  go_enter Tryz.func20, Tryz.ntmps20
  go_wp2_with fail
  refine (HSP.out _).mono ?_
  rintro e w1 ⟨Ap, cp, rfl, hrow, hb1⟩
  have hst := HW0.out _ rfl w1 Ap cp P hrow hb1
  clear hrow hb1 HSP HW0
  --MARK
  generalize hg0 : w.heap.size = g0 at *
  have HG0 := Lib.hid hg0
  clear hg0
  obtain ⟨hl1, hl2⟩ := hst.lt
  generalize g0 + 1 + 1 + 1 = bs at *
  generalize g0 + 1 + 1 = gs at *
  have hpn := HPF.out
  go_wp2_with fail
  go_loopg [8, 9, 10, 11, 12, 13, 14, 15, 16, 24] P.length (fun gn _ _ _ _ _ _ _ _ _ iv wr => ∃ (k x : Nat) (A' : Option Addr) (c' : Nat) (m : Mo), k ≤ P.length ∧ gn = P.length - k ∧ iv = .int .i64 k ∧ RSt w g0 gs bs Ap cp P A' c' x m wr ∧ o = rGo ls (decide (k = 0)) (P.drop k) x m)
  case atStart => exact ⟨0, 1, _, 1, (0, 0, 0, 0), Nat.zero_le _, rfl, rfl, hst, HRO.out⟩
  case round =>
    clear hst HRO
    obtain ⟨k, x, A', c', m, hk, hgk, rfl, hst, hro⟩ := hrel
    have HG := Lib.hid hgk; have HRO := Lib.hid hro
    clear hgk hro
    by_cases hlt : k < P.length
    · rw [show P.drop k = P.getD k [] :: P.drop (k + 1) by
        rw [List.drop_eq_getElem_cons hlt, List.getD_eq_getElem?_getD, List.getElem?_eq_getElem hlt]
        rfl, rGo] at HRO
      have hpl : (P.getD k []).length ≤ t.length := HPE.out _ (by
        rw [List.getD_eq_getElem?_getD, List.getElem?_eq_getElem hlt]
        exact List.getElem_mem _)
      obtain ⟨b, q, rfl, hb, c0⟩ := strs_at (Reads.of_own hst.row) hlt
      have i1 : (k : Int) < (P.length : Int) := by omega
      have i0 : (0 : Int) ≤ (k : Int) := by omega
      generalize P.getD k [] = pt at *
      have HDI := Lib.hid (RDigits_any pt wr (by omega))
      go_wp2_with fail
      refine HDI.out.mono ?_
      rintro e w2 hr
      obtain ⟨v, rfl, hrow, hb2⟩ := hr.dok
      have hst2 := hst.old HG0.out hb2
      have c0' := (hb2.cell (p := ⟨b, q + k, none⟩) hb).trans c0
      clear hr hst c0 hb2 HDI hb
      have hfree : dok pt = true ∧ k = 0 ∨ (dok pt = false ∨ dok pt = true ∧ ((k : Int) == 0) = false) ∧ (dok pt && decide (k = 0)) = false := by
        by_cases h0 : k = 0
        · cases h : dok pt with
          | false => exact .inr ⟨.inl rfl, rfl⟩
          | true => exact .inl ⟨rfl, h0⟩
        · refine .inr ⟨?_, by simp [h0]⟩
          cases h : dok pt with
          | false => exact .inl rfl
          | true => exact .inr ⟨rfl, by simp; omega⟩
      rcases hfree with ⟨hd, rfl⟩ | ⟨hfr, hnot⟩
      · obtain ⟨A3, c3, rfl, hown⟩ := hrow hd
        have HN := Lib.hid (show o = rGo ls false (P.drop (0 + 1)) (decV pt) m by rw [HRO.out, hd]; rfl)
        rw [hd]
        have HCF := Lib.hid (hst2.coef (NatK.of_own hown) (own_cap hown))
        have d1 : w2.cell? ⟨gs, 1, none⟩ = some (.slice A' (dig x).length c') := hst2.t.cell 1
        have f1 := hst2.t.frozen 1
        have z6 := hst2.t.lt
        clear hst2 hown HRO hrow hd c0'
        go_wp2_with fail
        go_roundg (P.length - (0 + 1))
        case rel => exact ⟨0 + 1, decV pt, A3, c3, m, by omega, rfl, by go_num, HCF.out, HN.out⟩
        case measure => have := HG.out; omega
      · rw [hnot, if_neg (by decide)] at HRO
        unfold rfac at HRO
        have HQ0 := Lib.hid (show 0 < (spl 94 pt).length by rw [spl_parts, partsS_len]; omega)
        have HQE := Lib.hid (show ∀ p ∈ spl 94 pt, p.length ≤ pt.length by rw [spl_parts]; exact partsS_el 94 pt)
        have HS2 := Lib.hid (fun (W : World) => RSplit_any pt 94 W (by omega))
        generalize spl 94 pt = Q at *
        clear hrow hnot
        generalize dok pt = fl at *
        rcases hfr with rfl | ⟨rfl, k0⟩
        all_goals
          go_wp2_with fail
          refine (HS2.out _).mono ?_
          rintro e w3 ⟨Aq, cq, rfl, hrq, hb3⟩
          have hst3 := hst2.old HG0.out hb3
          clear hb3 hst2 HS2 c0'
          have hq0 := HQ0.out
          go_upto_if 50 with (fail)
          go_cut [12, 13, 14] (fun xv _ _ wc => ∃ y : Int, xv = .int .i64 y ∧ rexp Q = some y ∧ Below w3.heap.size w3 wc)
          case first =>
            by_cases h2 : Q.length = 2
            · have HR2 := Lib.hid (rexp_two h2)
              obtain ⟨b', q', rfl, hb', c1⟩ := strs_at (Reads.of_own hrq) (show 1 < Q.length by omega)
              have hdl : (Q.getD 1 []).length ≤ pt.length := HQE.out _ (by
                rw [List.getD_eq_getElem?_getD, List.getElem?_eq_getElem (show 1 < Q.length by omega)]
                exact List.getElem_mem _)
              have k2 : ((Q.length : Int) == 2) = true := by simp; omega
              have k3 : (1 : Int) < (Q.length : Int) := by omega
              generalize Q.getD 1 [] = dt at *
              have HDJ := Lib.hid (RDigits_any dt w3 (by omega))
              clear h2
              go_wp2_with fail
              refine HDJ.out.mono ?_
              rintro e w4 hr
              obtain ⟨v4, rfl, hrow4, hb4⟩ := hr.dok
              have hst4 := hst3.old HG0.out hb4
              have HB4 := Lib.hid hb4
              clear hr hst3 c1 hrq HDJ hb' hb4
              cases hdd : dok dt with
              | false =>
                have HN := Lib.hid (show o = none by rw [HRO.out, HR2.out, hdd]; rfl)
                clear hrow4 hdd HRO
                have HZ := Lib.hid hst4.z; have HBL := Lib.hid hst4.bl
                have hx0 : w4.cell? ⟨gs, 0, none⟩ = some (.bool false) := hst4.t.cell 0
                have hx1 : w4.cell? ⟨gs, 1, none⟩ = some (.slice A' (dig x).length c') := hst4.t.cell 1
                have hx2 : w4.cell? ⟨gs, 2, none⟩ = some (.int .i64 m.1) := hst4.t.cell 2
                have hx3 : w4.cell? ⟨gs, 3, none⟩ = some (.int .i64 m.2.1) := hst4.t.cell 3
                have hx4 : w4.cell? ⟨gs, 4, none⟩ = some (.int .i64 m.2.2.1) := hst4.t.cell 4
                have hx5 : w4.cell? ⟨gs, 5, none⟩ = some (.int .i64 m.2.2.2) := hst4.t.cell 5
                have f0 := hst4.z.frozen 0; have f1 := hst4.z.frozen 1; have f2 := hst4.z.frozen 2; have f3 := hst4.z.frozen 3; have f4 := hst4.z.frozen 4; have f5 := hst4.z.frozen 5
                have d0 : w4.cell? ⟨g0, 0, none⟩ = some (.bool false) := hst4.z.cell 0
                have d1 : w4.cell? ⟨g0, 1, none⟩ = some (.slice none 0 0) := hst4.z.cell 1
                have d2 : w4.cell? ⟨g0, 2, none⟩ = some (.int .i64 0) := hst4.z.cell 2
                have d3 : w4.cell? ⟨g0, 3, none⟩ = some (.int .i64 0) := hst4.z.cell 3
                have d4 : w4.cell? ⟨g0, 4, none⟩ = some (.int .i64 0) := hst4.z.cell 4
                have d5 : w4.cell? ⟨g0, 5, none⟩ = some (.int .i64 0) := hst4.z.cell 5
                have z0 := hst4.z.lt
                have z6 := hst4.t.lt
                have n0 : gs ≠ g0 := by omega
                clear hst4
                go_wp2_with fail
                exact ret_blk2 Tryz.results20 rfl rfl ((((((HZ.out.set_ 0 _).set_ 1 _).set_ 2 _).set_ 3 _).set_ 4 _).set_ 5 _) Tryz.underlying47 rfl Tryz.sizeTerm6 ⟨.inl ⟨HN.out, A', (dig x).length, c', m, rfl⟩, by rw [HG0.out]; exact (((((HBL.out.setCell (Nat.le_refl _) _).setCell (Nat.le_refl _) _).setCell (Nat.le_refl _) _).setCell (Nat.le_refl _) _).setCell (Nat.le_refl _) _).setCell (Nat.le_refl _) _⟩
              | true =>
                obtain ⟨A4, c4, rfl, hown⟩ := hrow4 hdd
                rw [hdd] at HR2
                generalize decV dt = n at *
                clear hrow4 hdd
                by_cases hn0 : n = 0
                · subst hn0
                  rw [show (dig 0).length = 0 by rw [dig_zero]; rfl]
                  clear hown hst4
                  go_wp2_with fail
                  go_meet
                  case rel => exact ⟨0, rfl, HR2.out, HB4.out⟩
                · by_cases hn1 : n < 4294967296
                  · rw [dig_uno hn0 hn1] at hown
                    rw [dig_uno hn0 hn1, show [n].length = 1 from rfl]
                    obtain ⟨b5, q5, rfl, hb5, c5⟩ := nat_at (k := 0) (ds := [n]) (Reads.of_own hown) (by simp)
                    rw [Nat.add_zero, show [n].getD 0 0 = n from rfl] at c5
                    by_cases hn2 : n ≤ 1073741824
                    · have HE := Lib.hid (show rexp Q = some (n : Int) by rw [HR2.out, if_pos ⟨rfl, hn2⟩])
                      have k5 : (n : Int) ≤ 1073741824 := by omega
                      clear hown hst4 HR2
                      go_wp2_with fail
                      go_meet
                      case rel => exact ⟨(n : Int), by go_num, HE.out, HB4.out⟩
                    · have HN := Lib.hid (show o = none by rw [HRO.out, HR2.out, if_neg (fun h => hn2 h.2)])
                      have k5 : (1073741824 : Int) < (n : Int) := by omega
                      clear hown HR2 HRO
                      have HZ := Lib.hid hst4.z; have HBL := Lib.hid hst4.bl
                      have hx0 : w4.cell? ⟨gs, 0, none⟩ = some (.bool false) := hst4.t.cell 0
                      have hx1 : w4.cell? ⟨gs, 1, none⟩ = some (.slice A' (dig x).length c') := hst4.t.cell 1
                      have hx2 : w4.cell? ⟨gs, 2, none⟩ = some (.int .i64 m.1) := hst4.t.cell 2
                      have hx3 : w4.cell? ⟨gs, 3, none⟩ = some (.int .i64 m.2.1) := hst4.t.cell 3
                      have hx4 : w4.cell? ⟨gs, 4, none⟩ = some (.int .i64 m.2.2.1) := hst4.t.cell 4
                      have hx5 : w4.cell? ⟨gs, 5, none⟩ = some (.int .i64 m.2.2.2) := hst4.t.cell 5
                      have f0 := hst4.z.frozen 0; have f1 := hst4.z.frozen 1; have f2 := hst4.z.frozen 2; have f3 := hst4.z.frozen 3; have f4 := hst4.z.frozen 4; have f5 := hst4.z.frozen 5
                      have d0 : w4.cell? ⟨g0, 0, none⟩ = some (.bool false) := hst4.z.cell 0
                      have d1 : w4.cell? ⟨g0, 1, none⟩ = some (.slice none 0 0) := hst4.z.cell 1
                      have d2 : w4.cell? ⟨g0, 2, none⟩ = some (.int .i64 0) := hst4.z.cell 2
                      have d3 : w4.cell? ⟨g0, 3, none⟩ = some (.int .i64 0) := hst4.z.cell 3
                      have d4 : w4.cell? ⟨g0, 4, none⟩ = some (.int .i64 0) := hst4.z.cell 4
                      have d5 : w4.cell? ⟨g0, 5, none⟩ = some (.int .i64 0) := hst4.z.cell 5
                      have z0 := hst4.z.lt
                      have z6 := hst4.t.lt
                      have n0 : gs ≠ g0 := by omega
                      clear hst4
                      go_wp2_with fail
                      exact ret_blk2 Tryz.results20 rfl rfl ((((((HZ.out.set_ 0 _).set_ 1 _).set_ 2 _).set_ 3 _).set_ 4 _).set_ 5 _) Tryz.underlying47 rfl Tryz.sizeTerm6 ⟨.inl ⟨HN.out, A', (dig x).length, c', m, rfl⟩, by rw [HG0.out]; exact (((((HBL.out.setCell (Nat.le_refl _) _).setCell (Nat.le_refl _) _).setCell (Nat.le_refl _) _).setCell (Nat.le_refl _) _).setCell (Nat.le_refl _) _).setCell (Nat.le_refl _) _⟩
                  · have HN := Lib.hid (show o = none by rw [HRO.out, HR2.out, if_neg (fun h => by have := h.2; omega)])
                    have hd2 := dig_duo (n := n) (by omega)
                    have k5 : (1 : Int) < ((dig n).length : Int) := by omega
                    clear hown HR2 HRO
                    have HZ := Lib.hid hst4.z; have HBL := Lib.hid hst4.bl
                    have hx0 : w4.cell? ⟨gs, 0, none⟩ = some (.bool false) := hst4.t.cell 0
                    have hx1 : w4.cell? ⟨gs, 1, none⟩ = some (.slice A' (dig x).length c') := hst4.t.cell 1
                    have hx2 : w4.cell? ⟨gs, 2, none⟩ = some (.int .i64 m.1) := hst4.t.cell 2
                    have hx3 : w4.cell? ⟨gs, 3, none⟩ = some (.int .i64 m.2.1) := hst4.t.cell 3
                    have hx4 : w4.cell? ⟨gs, 4, none⟩ = some (.int .i64 m.2.2.1) := hst4.t.cell 4
                    have hx5 : w4.cell? ⟨gs, 5, none⟩ = some (.int .i64 m.2.2.2) := hst4.t.cell 5
                    have f0 := hst4.z.frozen 0; have f1 := hst4.z.frozen 1; have f2 := hst4.z.frozen 2; have f3 := hst4.z.frozen 3; have f4 := hst4.z.frozen 4; have f5 := hst4.z.frozen 5
                    have d0 : w4.cell? ⟨g0, 0, none⟩ = some (.bool false) := hst4.z.cell 0
                    have d1 : w4.cell? ⟨g0, 1, none⟩ = some (.slice none 0 0) := hst4.z.cell 1
                    have d2 : w4.cell? ⟨g0, 2, none⟩ = some (.int .i64 0) := hst4.z.cell 2
                    have d3 : w4.cell? ⟨g0, 3, none⟩ = some (.int .i64 0) := hst4.z.cell 3
                    have d4 : w4.cell? ⟨g0, 4, none⟩ = some (.int .i64 0) := hst4.z.cell 4
                    have d5 : w4.cell? ⟨g0, 5, none⟩ = some (.int .i64 0) := hst4.z.cell 5
                    have z0 := hst4.z.lt
                    have z6 := hst4.t.lt
                    have n0 : gs ≠ g0 := by omega
                    clear hst4
                    go_wp2_with fail
                    exact ret_blk2 Tryz.results20 rfl rfl ((((((HZ.out.set_ 0 _).set_ 1 _).set_ 2 _).set_ 3 _).set_ 4 _).set_ 5 _) Tryz.underlying47 rfl Tryz.sizeTerm6 ⟨.inl ⟨HN.out, A', (dig x).length, c', m, rfl⟩, by rw [HG0.out]; exact (((((HBL.out.setCell (Nat.le_refl _) _).setCell (Nat.le_refl _) _).setCell (Nat.le_refl _) _).setCell (Nat.le_refl _) _).setCell (Nat.le_refl _) _).setCell (Nat.le_refl _) _⟩
            · have HR1 := Lib.hid (rexp_one h2)
              have k2 : ((Q.length : Int) == 2) = false := by simp; omega
              clear h2 hrq hst3
              go_wp2_with fail
              go_meet
              case rel => exact ⟨1, rfl, HR1.out, Below.refl _ _⟩
          case rest =>
            obtain ⟨y, rfl, hy, hbc⟩ := hcut
            rw [hy] at HRO
            have hst4 := hst3.old HG0.out hbc
            obtain ⟨b', q', rfl, hb', c1⟩ := strs_at (Reads.of_own hrq) (show 0 < Q.length from hq0)
            rw [Nat.add_zero, ← hbc.cell (p := ⟨b', q', none⟩) hb'] at c1
            have HC1 := Lib.hid c1
            clear hst3 hbc hy hrq c1 hb'
            have HLA := Lib.hid (fun j => show laTo ls (Q.getD 0 []) (j + 1) = if (ls.getD j [] == Q.getD 0 []) = true then (j : Int) else laTo ls (Q.getD 0 []) j from rfl)
            have HLR := Lib.hid (laTo_range ls (Q.getD 0 []) ls.length)
            have HLZ := Lib.hid (show laTo ls (Q.getD 0 []) 0 = -1 from rfl)
            simp only [] at HRO
            have HBQ := Lib.hid (bs_list (Q.getD 0 []))
            generalize laTo ls (Q.getD 0 []) = LA at *
            generalize Q.getD 0 [] = nq0 at *
            generalize (⟨nq0.toArray⟩ : ByteArray) = sq at *
            have k3 : (0 : Int) < (Q.length : Int) := by omega
            go_wp2_with fail
            go_loopg [15, 16, 86] ls.length (fun gn av _ jv wx => ∃ j : Nat, j ≤ ls.length ∧ gn = ls.length - j ∧ jv = .int .i64 j ∧ av = .int .i64 (LA j) ∧ Drawn wc wx)
            case atStart => exact ⟨0, Nat.zero_le _, rfl, rfl, by rw [HLZ.out], Drawn.refl _⟩
            case round =>
              obtain ⟨j, hj, hgj, rfl, rfl, hdr⟩ := hrel
              have HGJ := Lib.hid hgj
              clear hgj
              by_cases hjl : j < ls.length
              · obtain ⟨b2, q2, rfl, hb2, c2⟩ := strs_at (HL.out wr (hst4.bl.trans (hdr.below _))) hjl
                have c3 := (hdr.cell ⟨b', q', none⟩).trans HC1.out
                have j1 : (j : Int) < (ls.length : Int) := by omega
                have j0 : (0 : Int) ≤ (j : Int) := by omega
                have HA1 := Lib.hid (HLA.out j)
                generalize ls.getD j [] = nm at *
                have hby := bs_list nm
                generalize (⟨nm.toArray⟩ : ByteArray) = sn at *
                cases hyx : nm == nq0 with
                | false =>
                  have hss : (sn.toList == sq.toList) = false := by rw [hby, HBQ.out]; exact hyx
                  rw [hyx] at HA1
                  have HA2 := Lib.hid (show LA (j + 1) = LA j by rw [HA1.out]; rfl)
                  clear hby hyx hst4
                  go_wp2_with fail
                  go_quiet (fail)
                  have hdr2 := hdr.trans (Drawn.drewN wr nq)
                  go_wp2_with fail
                  go_roundg (ls.length - (j + 1))
                  case rel => exact ⟨j + 1, by omega, rfl, by go_num, by rw [HA2.out], hdr2⟩
                  case measure => have := HGJ.out; omega
                | true =>
                  have hss : (sn.toList == sq.toList) = true := by rw [hby, HBQ.out]; exact hyx
                  rw [hyx] at HA1
                  have HA2 := Lib.hid (show LA (j + 1) = (j : Int) by rw [HA1.out]; rfl)
                  clear hby hyx hst4
                  go_wp2_with fail
                  go_quiet (fail)
                  have hdr2 := hdr.trans (Drawn.drewN wr nq)
                  go_wp2_with fail
                  go_roundg (ls.length - (j + 1))
                  case rel => exact ⟨j + 1, by omega, rfl, by go_num, by rw [HA2.out], hdr2⟩
                  case measure => have := HGJ.out; omega
              · obtain rfl : j = ls.length := by omega
                have hst5 := hst4.old HG0.out (hdr.below _)
                rcases HLR.out with hla | ⟨j, hj4, hla⟩
                · have HN := Lib.hid (show o = none by rw [HRO.out, if_pos (.inl (by rw [hla]; decide))])
                  rw [hla]
                  clear hla HRO hst4 hdr
                  have HZ := Lib.hid hst5.z; have HBL := Lib.hid hst5.bl
                  have hx0 : wr.cell? ⟨gs, 0, none⟩ = some (.bool false) := hst5.t.cell 0
                  have hx1 : wr.cell? ⟨gs, 1, none⟩ = some (.slice A' (dig x).length c') := hst5.t.cell 1
                  have hx2 : wr.cell? ⟨gs, 2, none⟩ = some (.int .i64 m.1) := hst5.t.cell 2
                  have hx3 : wr.cell? ⟨gs, 3, none⟩ = some (.int .i64 m.2.1) := hst5.t.cell 3
                  have hx4 : wr.cell? ⟨gs, 4, none⟩ = some (.int .i64 m.2.2.1) := hst5.t.cell 4
                  have hx5 : wr.cell? ⟨gs, 5, none⟩ = some (.int .i64 m.2.2.2) := hst5.t.cell 5
                  have f0 := hst5.z.frozen 0; have f1 := hst5.z.frozen 1; have f2 := hst5.z.frozen 2; have f3 := hst5.z.frozen 3; have f4 := hst5.z.frozen 4; have f5 := hst5.z.frozen 5
                  have d0 : wr.cell? ⟨g0, 0, none⟩ = some (.bool false) := hst5.z.cell 0
                  have d1 : wr.cell? ⟨g0, 1, none⟩ = some (.slice none 0 0) := hst5.z.cell 1
                  have d2 : wr.cell? ⟨g0, 2, none⟩ = some (.int .i64 0) := hst5.z.cell 2
                  have d3 : wr.cell? ⟨g0, 3, none⟩ = some (.int .i64 0) := hst5.z.cell 3
                  have d4 : wr.cell? ⟨g0, 4, none⟩ = some (.int .i64 0) := hst5.z.cell 4
                  have d5 : wr.cell? ⟨g0, 5, none⟩ = some (.int .i64 0) := hst5.z.cell 5
                  have z0 := hst5.z.lt
                  have z6 := hst5.t.lt
                  have n0 : gs ≠ g0 := by omega
                  clear hst5
                  go_wp2_with fail
                  exact ret_blk2 Tryz.results20 rfl rfl ((((((HZ.out.set_ 0 _).set_ 1 _).set_ 2 _).set_ 3 _).set_ 4 _).set_ 5 _) Tryz.underlying47 rfl Tryz.sizeTerm6 ⟨.inl ⟨HN.out, A', (dig x).length, c', m, rfl⟩, by rw [HG0.out]; exact (((((HBL.out.setCell (Nat.le_refl _) _).setCell (Nat.le_refl _) _).setCell (Nat.le_refl _) _).setCell (Nat.le_refl _) _).setCell (Nat.le_refl _) _).setCell (Nat.le_refl _) _⟩
                · have hj5 : j < 4 := by omega
                  rw [hla]
                  rw [hla, Int.toNat_natCast] at HRO
                  have j0 : (0 : Int) ≤ (j : Int) := by omega
                  have j1 : (j : Int) < 4 := by omega
                  by_cases hq2 : 2 < Q.length
                  · have HN := Lib.hid (show o = none by rw [HRO.out, if_pos (.inr (.inl hq2))])
                    have q2' : (2 : Int) < (Q.length : Int) := by omega
                    clear hla HRO hst4 hdr
                    have HZ := Lib.hid hst5.z; have HBL := Lib.hid hst5.bl
                    have hx0 : wr.cell? ⟨gs, 0, none⟩ = some (.bool false) := hst5.t.cell 0
                    have hx1 : wr.cell? ⟨gs, 1, none⟩ = some (.slice A' (dig x).length c') := hst5.t.cell 1
                    have hx2 : wr.cell? ⟨gs, 2, none⟩ = some (.int .i64 m.1) := hst5.t.cell 2
                    have hx3 : wr.cell? ⟨gs, 3, none⟩ = some (.int .i64 m.2.1) := hst5.t.cell 3
                    have hx4 : wr.cell? ⟨gs, 4, none⟩ = some (.int .i64 m.2.2.1) := hst5.t.cell 4
                    have hx5 : wr.cell? ⟨gs, 5, none⟩ = some (.int .i64 m.2.2.2) := hst5.t.cell 5
                    have f0 := hst5.z.frozen 0; have f1 := hst5.z.frozen 1; have f2 := hst5.z.frozen 2; have f3 := hst5.z.frozen 3; have f4 := hst5.z.frozen 4; have f5 := hst5.z.frozen 5
                    have d0 : wr.cell? ⟨g0, 0, none⟩ = some (.bool false) := hst5.z.cell 0
                    have d1 : wr.cell? ⟨g0, 1, none⟩ = some (.slice none 0 0) := hst5.z.cell 1
                    have d2 : wr.cell? ⟨g0, 2, none⟩ = some (.int .i64 0) := hst5.z.cell 2
                    have d3 : wr.cell? ⟨g0, 3, none⟩ = some (.int .i64 0) := hst5.z.cell 3
                    have d4 : wr.cell? ⟨g0, 4, none⟩ = some (.int .i64 0) := hst5.z.cell 4
                    have d5 : wr.cell? ⟨g0, 5, none⟩ = some (.int .i64 0) := hst5.z.cell 5
                    have z0 := hst5.z.lt
                    have z6 := hst5.t.lt
                    have n0 : gs ≠ g0 := by omega
                    clear hst5
                    go_wp2_with fail
                    exact ret_blk2 Tryz.results20 rfl rfl ((((((HZ.out.set_ 0 _).set_ 1 _).set_ 2 _).set_ 3 _).set_ 4 _).set_ 5 _) Tryz.underlying47 rfl Tryz.sizeTerm6 ⟨.inl ⟨HN.out, A', (dig x).length, c', m, rfl⟩, by rw [HG0.out]; exact (((((HBL.out.setCell (Nat.le_refl _) _).setCell (Nat.le_refl _) _).setCell (Nat.le_refl _) _).setCell (Nat.le_refl _) _).setCell (Nat.le_refl _) _).setCell (Nat.le_refl _) _⟩
                  · have q2' : (Q.length : Int) ≤ 2 := by omega
                    have cj := cellsT_at hst5.t hj5
                    by_cases hg0' : gt m j = 0
                    · have HN := Lib.hid (show o = rGo ls false (P.drop (k + 1)) x (addAt m j y) by
                        rw [HRO.out, if_neg (by
                          rintro (h | h | h)
                          · omega
                          · omega
                          · exact h hg0')])
                      have HXP := Lib.hid (hst5.exp hj5 hg0' y)
                      rw [hg0'] at cj
                      have fj := hst5.t.frozen (2 + j)
                      have z6 := hst5.t.lt
                      clear hla HRO hst4 hdr hst5 hg0'
                      go_wp2_with fail
                      go_roundg (P.length - (k + 1))
                      case rel => exact ⟨k + 1, x, A', c', addAt m j y, by omega, rfl, by go_num, HXP.out, by rw [decide_eq_false (by omega)]; exact HN.out⟩
                      case measure => have := HG.out; omega
                    · have HN := Lib.hid (show o = none by rw [HRO.out, if_pos (.inr (.inr hg0'))])
                      have HGT := Lib.hid (rfl : gt m j = gt m j)
                      generalize gt m j = gj at *
                      have g1 : (gj != 0) = true := by simpa using hg0'
                      clear hla HRO hst4 hdr hg0'
                      have HZ := Lib.hid hst5.z; have HBL := Lib.hid hst5.bl
                      have hx0 : wr.cell? ⟨gs, 0, none⟩ = some (.bool false) := hst5.t.cell 0
                      have hx1 : wr.cell? ⟨gs, 1, none⟩ = some (.slice A' (dig x).length c') := hst5.t.cell 1
                      have hx2 : wr.cell? ⟨gs, 2, none⟩ = some (.int .i64 m.1) := hst5.t.cell 2
                      have hx3 : wr.cell? ⟨gs, 3, none⟩ = some (.int .i64 m.2.1) := hst5.t.cell 3
                      have hx4 : wr.cell? ⟨gs, 4, none⟩ = some (.int .i64 m.2.2.1) := hst5.t.cell 4
                      have hx5 : wr.cell? ⟨gs, 5, none⟩ = some (.int .i64 m.2.2.2) := hst5.t.cell 5
                      have f0 := hst5.z.frozen 0; have f1 := hst5.z.frozen 1; have f2 := hst5.z.frozen 2; have f3 := hst5.z.frozen 3; have f4 := hst5.z.frozen 4; have f5 := hst5.z.frozen 5
                      have d0 : wr.cell? ⟨g0, 0, none⟩ = some (.bool false) := hst5.z.cell 0
                      have d1 : wr.cell? ⟨g0, 1, none⟩ = some (.slice none 0 0) := hst5.z.cell 1
                      have d2 : wr.cell? ⟨g0, 2, none⟩ = some (.int .i64 0) := hst5.z.cell 2
                      have d3 : wr.cell? ⟨g0, 3, none⟩ = some (.int .i64 0) := hst5.z.cell 3
                      have d4 : wr.cell? ⟨g0, 4, none⟩ = some (.int .i64 0) := hst5.z.cell 4
                      have d5 : wr.cell? ⟨g0, 5, none⟩ = some (.int .i64 0) := hst5.z.cell 5
                      have z0 := hst5.z.lt
                      have z6 := hst5.t.lt
                      have n0 : gs ≠ g0 := by omega
                      clear hst5
                      go_wp2_with fail
                      exact ret_blk2 Tryz.results20 rfl rfl ((((((HZ.out.set_ 0 _).set_ 1 _).set_ 2 _).set_ 3 _).set_ 4 _).set_ 5 _) Tryz.underlying47 rfl Tryz.sizeTerm6 ⟨.inl ⟨HN.out, A', (dig x).length, c', m, rfl⟩, by rw [HG0.out]; exact (((((HBL.out.setCell (Nat.le_refl _) _).setCell (Nat.le_refl _) _).setCell (Nat.le_refl _) _).setCell (Nat.le_refl _) _).setCell (Nat.le_refl _) _).setCell (Nat.le_refl _) _⟩
    · obtain rfl : k = P.length := by omega
      have HN := Lib.hid (show o = some (x, m) by
        rw [HRO.out, List.drop_of_length_le (Nat.le_refl _)]
        cases decide (P.length = 0) <;> rfl)
      clear HRO
      have HZ := Lib.hid hst.z; have HBL := Lib.hid hst.bl
      have hx0 : wr.cell? ⟨gs, 0, none⟩ = some (.bool false) := hst.t.cell 0
      have hx1 : wr.cell? ⟨gs, 1, none⟩ = some (.slice A' (dig x).length c') := hst.t.cell 1
      have hx2 : wr.cell? ⟨gs, 2, none⟩ = some (.int .i64 m.1) := hst.t.cell 2
      have hx3 : wr.cell? ⟨gs, 3, none⟩ = some (.int .i64 m.2.1) := hst.t.cell 3
      have hx4 : wr.cell? ⟨gs, 4, none⟩ = some (.int .i64 m.2.2.1) := hst.t.cell 4
      have hx5 : wr.cell? ⟨gs, 5, none⟩ = some (.int .i64 m.2.2.2) := hst.t.cell 5
      have f0 := hst.z.frozen 0; have f1 := hst.z.frozen 1; have f2 := hst.z.frozen 2; have f3 := hst.z.frozen 3; have f4 := hst.z.frozen 4; have f5 := hst.z.frozen 5
      have d0 : wr.cell? ⟨g0, 0, none⟩ = some (.bool false) := hst.z.cell 0
      have d1 : wr.cell? ⟨g0, 1, none⟩ = some (.slice none 0 0) := hst.z.cell 1
      have d2 : wr.cell? ⟨g0, 2, none⟩ = some (.int .i64 0) := hst.z.cell 2
      have d3 : wr.cell? ⟨g0, 3, none⟩ = some (.int .i64 0) := hst.z.cell 3
      have d4 : wr.cell? ⟨g0, 4, none⟩ = some (.int .i64 0) := hst.z.cell 4
      have d5 : wr.cell? ⟨g0, 5, none⟩ = some (.int .i64 0) := hst.z.cell 5
      have z0 := hst.z.lt
      have z6 := hst.t.lt
      have n0 : gs ≠ g0 := by omega
      have HNB := Lib.hid (((hst.n.far hst.z (by decide) 0 (.bool false)).far (hst.z.set_ 0 _) (by decide) 1 (.slice A' (dig x).length c')).far ((hst.z.set_ 0 _).set_ 1 _) (by decide) 2 (.int .i64 m.1) |>.far (((hst.z.set_ 0 _).set_ 1 _).set_ 2 _) (by decide) 3 (.int .i64 m.2.1) |>.far ((((hst.z.set_ 0 _).set_ 1 _).set_ 2 _).set_ 3 _) (by decide) 4 (.int .i64 m.2.2.1) |>.far (((((hst.z.set_ 0 _).set_ 1 _).set_ 2 _).set_ 3 _).set_ 4 _) (by decide) 5 (.int .i64 m.2.2.2))
      have HCC := Lib.hid hst.cc
      clear hst
      go_wp2_with fail
      exact ret_blk2 Tryz.results20 rfl rfl ((((((HZ.out.set_ 0 _).set_ 1 _).set_ 2 _).set_ 3 _).set_ 4 _).set_ 5 _) Tryz.underlying47 rfl Tryz.sizeTerm6 ⟨.inr ⟨x, m, HN.out, A', c', rfl, HCC.out, HNB.out⟩, by rw [HG0.out]; exact (((((HBL.out.setCell (Nat.le_refl _) _).setCell (Nat.le_refl _) _).setCell (Nat.le_refl _) _).setCell (Nat.le_refl _) _).setCell (Nat.le_refl _) _).setCell (Nat.le_refl _) _⟩
end Go.Proofs.YtnghlhcekghciaaGreatDoor
