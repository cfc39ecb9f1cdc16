/- Contracts of the reference's Sets and Prime, for at most 1000 rows of at most 6 valid signs and at most 1000 terms. -/
import Derived.Test.YtlfjpfbkkbhhjaaDoorW6
import Derived.Test.YtlfjpfbkkbhhjaaDoorMem2
namespace Go.Proofs.YtlfjpfbkkbhhjaaDoor
open Go.RowKit

def setB (t : List Int) (k : Nat) : Bool := decide (1 ≤ t.getD k 0) && decide (t.getD k 0 ≤ 7)
def termOk (x : Int) (t : List Int) : Bool := decide ((t.length : Int) = x) && allTo (setB t) t.length
def setsB (x : Int) (ts : List (List Int)) : Bool := allTo (fun k => termOk x (ts.getD k [])) ts.length

set_option maxHeartbeats 1000000 in
theorem Sets_any (x : Int) (A : Option Addr) (n c B : Nat) (ts : List (List Int)) (w : World) (hr : ListsAt w B A ts) (hn : n = ts.length) (hm : n ≤ 1000) (hq : ∀ k, k < ts.length → (ts.getD k []).length ≤ 1000) :
    Calls Tryd.prog 12 #[.int .i64 x, .slice A n c] w fun e w' => e = .returned (.bool (setsB x ts)) ∧ w = w' := by
  have HN := Lib.hid hn; clear hn
  have HQ := Lib.hid hq; clear hq
  go_enter Tryd.func12, Tryd.ntmps12
  go_wp2
  go_loop [5, 6, 9] (fun _ _ i => ∃ (k : Nat), k ≤ n ∧ i = .int .i64 k ∧ allTo (fun k => termOk x (ts.getD k [])) k = true) (fun _ _ i => n - (intOf i).toNat)
  case atStart => exact ⟨0, Nat.zero_le _, rfl, rfl⟩
  case round =>
    obtain ⟨k, hk, rfl, hp⟩ := hrel
    have HP := Lib.hid hp; clear hp
    by_cases hlt : k < n
    · obtain ⟨b1, o1, Ak, ck, rfl, q1, c1, hs⟩ := hr.at_ (k := k) (by have := HN.out; omega)
      have HS := Lib.hid (allTo_succ (fun k => termOk x (ts.getD k [])) k)
      have HF := Lib.hid (fun h : termOk x (ts.getD k []) = false => show setsB x ts = false by
        have := @allTo_false (fun k => termOk x (ts.getD k [])) k n h hlt
        rw [HN.out] at this
        exact this)
      have h6 := HQ.out k (by have := HN.out; omega)
      have i1 : (k : Int) < n := by omega
      generalize ts.getD k [] = l at *
      by_cases hx : (l.length : Int) = x
      · have hx' : ((l.length : Int) != x) = false := by simpa using hx
        have HX := Lib.hid hx; clear hx
        go_wp2
        go_loop [6, 24] (fun _ i => ∃ (j : Nat), j ≤ l.length ∧ i = .int .i64 j ∧ allTo (setB l) j = true) (fun _ i => l.length - (intOf i).toNat)
        case atStart => exact ⟨0, Nat.zero_le _, rfl, rfl⟩
        case round =>
          obtain ⟨j, hj, rfl, hp2⟩ := hrel
          have HP2 := Lib.hid hp2; clear hp2
          by_cases hlt2 : j < l.length
          · obtain ⟨b2, o2, rfl, q2, c3⟩ := hs.int_at (k := j) hlt2
            have HS2 := Lib.hid (allTo_succ (setB l) j)
            have HF2 := Lib.hid (@allTo_false (setB l) j l.length)
            have HG := Lib.hid (show setB l j = (decide (1 ≤ l.getD j 0) && decide (l.getD j 0 ≤ 7)) from rfl)
            have i2 : (j : Int) < l.length := by omega
            generalize l.getD j 0 = y at *
            by_cases hy : 1 ≤ y
            · by_cases hy2 : y ≤ 7
              · go_wp2
                go_round
                case rel => exact ⟨j + 1, by omega, by go_num, by rw [HS2.out, HP2.out, HG.out]; simp [hy, hy2]⟩
                case measure => simp [intOf]; omega
              · go_wp2
                go_ret
                refine ⟨ret_bool (HF.out ?_).symm, rfl⟩
                unfold termOk; rw [HF2.out (by rw [HG.out]; simp only [Bool.and_eq_false_iff, decide_eq_false_iff_not]; omega) hlt2]; simp
            · go_wp2
              go_ret
              refine ⟨ret_bool (HF.out ?_).symm, rfl⟩
              unfold termOk; rw [HF2.out (by rw [HG.out]; simp only [Bool.and_eq_false_iff, decide_eq_false_iff_not]; omega) hlt2]; simp
          · go_wp2
            go_round
            case rel => exact ⟨k + 1, by omega, by go_num, by rw [HS.out, HP.out]; have := HP2.out; rw [show j = l.length by omega] at this; simp [termOk, this, HX.out]⟩
            case measure => simp [intOf]; omega
      · have hx' : ((l.length : Int) != x) = true := by simpa using hx
        have HX := Lib.hid hx; clear hx
        go_wp2
        go_ret
        exact ⟨ret_bool (HF.out (by unfold termOk; simp [HX.out])).symm, rfl⟩
    · go_wp2
      go_ret
      refine ⟨ret_bool ?_, rfl⟩
      have := HP.out
      rw [show k = n by omega, HN.out] at this
      exact this.symm

theorem Tryd.infoInt : (Tryd.prog.info? 3).map (fun i => (i.zero, i.size, i.bytes)) = some (some (.int .i64 0), 1, 8) := by kernel_rfl

def okBit (t : List Int) (k : Nat) (rows : List (List Int × Bool)) (b : Int) : Bool := !(bits .and .i64 (t.getD k 0) b == 0) || falseB (t.set k (bits .or .i64 (t.getD k 0) b)) rows
def primeAt (t : List Int) (rows : List (List Int × Bool)) (k : Nat) : Bool := okBit t k rows 1 && okBit t k rows 2 && okBit t k rows 4
def primeT (t : List Int) (rows : List (List Int × Bool)) : Bool := allTo (primeAt t rows) t.length
def primeB (ts : List (List Int)) (rows : List (List Int × Bool)) : Bool := allTo (fun i => primeT (ts.getD i []) rows) ts.length

theorem next_bit {okb : Int → Bool} {x : Int} (hx : x = 1 ∨ x = 2 ∨ x = 4 ∨ x = 8) (x4 : x ≤ 4) (hb : okb x = true) (h1 : 2 ≤ x → okb 1 = true) (h2 : 4 ≤ x → okb 2 = true) :
    1 ≤ x * 2 ∧ x * 2 ≤ 8 ∧ (x * 2 = 1 ∨ x * 2 = 2 ∨ x * 2 = 4 ∨ x * 2 = 8) ∧ (2 ≤ x * 2 → okb 1 = true) ∧ (4 ≤ x * 2 → okb 2 = true) ∧ (8 ≤ x * 2 → okb 4 = true) := by
  rcases hx with rfl | rfl | rfl | rfl
  · exact ⟨by omega, by omega, by omega, fun _ => hb, by omega, by omega⟩
  · exact ⟨by omega, by omega, by omega, fun _ => h1 (by omega), fun _ => hb, by omega⟩
  · exact ⟨by omega, by omega, by omega, fun _ => h1 (by omega), fun _ => h2 (by omega), fun _ => hb⟩
  · omega
set_option maxHeartbeats 1000000 in
theorem Prime_any (A0 A : Option Addr) (m n c0 c B : Nat) (ts : List (List Int)) (rows : List (List Int × Bool)) (w : World) (hB : B ≤ w.heap.size) (ht : ListsAt w B A0 ts) (hr : RowsAt w B A rows) (hm : m = ts.length) (hn : n = rows.length)
    (hm0 : m ≤ 1000) (hn0 : n ≤ 1000) (hqt : ∀ k, k < ts.length → (ts.getD k []).length ≤ 1000) (hq : ∀ k, k < rows.length → (sg rows k).length ≤ 6) (hv : ∀ k, k < rows.length → ∀ x ∈ sg rows k, -1 ≤ x ∧ x ≤ 1) :
    Calls Tryd.prog 14 #[.slice A0 m c0, .slice A n c] w fun e w' => e = .returned (.bool (primeB ts rows)) ∧ Below w.heap.size w w' := by
  have HN := Lib.hid hn; clear hn
  have HM := Lib.hid hm; clear hm
  have HQ := Lib.hid hq; clear hq
  have HQT := Lib.hid hqt; clear hqt
  have HV := Lib.hid hv; clear hv
  obtain ⟨i0, hi0, hz0, hz1, hz2⟩ := info_parts Tryd.infoInt
  go_enter Tryd.func14, Tryd.ntmps14
  go_wp2
  go_loopw [5, 6, 7, 8, 11] (fun _ _ _ _ i wr => ∃ (k : Nat), k ≤ m ∧ i = .int .i64 k ∧ allTo (fun i => primeT (ts.getD i []) rows) k = true ∧ Below w.heap.size w wr) (fun _ _ _ _ i _ => m - (intOf i).toNat)
  case atStart => exact ⟨0, Nat.zero_le _, rfl, rfl, .refl _ _⟩
  case round =>
    obtain ⟨i, hi, rfl, hp, hd⟩ := hrel
    have HP := Lib.hid hp; clear hp
    obtain ⟨wo, rfl⟩ : ∃ wo : World, wo = wr := ⟨_, rfl⟩
    by_cases hlt : i < m
    · obtain ⟨b1, o1, A1, c1', rfl, q1, c1, hs1⟩ := ht.at_ (k := i) (by have := HM.out; omega)
      have hc1 := (hd.cell (p := ⟨b1, o1 + i, none⟩) (by show b1 < _; omega)).trans c1
      have i1 : (i : Int) < m := by omega
      have HS := Lib.hid (allTo_succ (fun i => primeT (ts.getD i []) rows) i)
      have HF := Lib.hid (fun h : primeT (ts.getD i []) rows = false => show primeB ts rows = false by
        have := @allTo_false (fun i => primeT (ts.getD i []) rows) i m h hlt
        rw [HM.out] at this
        exact this)
      have h1000 := HQT.out i (by have := HM.out; omega)
      generalize ts.getD i [] = t at *
      go_wp2
      go_loopw [6, 7, 8, 19] (fun _ _ _ j wr => ∃ (k : Nat), k ≤ t.length ∧ j = .int .i64 k ∧ allTo (primeAt t rows) k = true ∧ Below w.heap.size w wr) (fun _ _ _ j _ => t.length - (intOf j).toNat)
      case atStart => exact ⟨0, Nat.zero_le _, rfl, rfl, hd⟩
      case round =>
        clear hd hc1
        obtain ⟨k, hk, rfl, hp2, hd⟩ := hrel
        have HP2 := Lib.hid hp2; clear hp2
        obtain ⟨wo2, rfl⟩ : ∃ wo2 : World, wo2 = wr := ⟨_, rfl⟩
        by_cases hlt2 : k < t.length
        · go_wp2
          go_loopw [7, 8] (fun b _ wr => ∃ x : Int, 1 ≤ x ∧ x ≤ 8 ∧ b = .int .i64 x ∧ (x = 1 ∨ x = 2 ∨ x = 4 ∨ x = 8) ∧ (2 ≤ x → okBit t k rows 1 = true) ∧ (4 ≤ x → okBit t k rows 2 = true) ∧ (8 ≤ x → okBit t k rows 4 = true) ∧ Below w.heap.size w wr) (fun b _ _ => 8 - (intOf b).toNat)
          case atStart => exact ⟨1, by omega, by omega, rfl, .inl rfl, by omega, by omega, by omega, hd⟩
          case round =>
            clear hd
            obtain ⟨x, x1, x8, rfl, hx, hb1, hb2, hb4, hd⟩ := hrel
            have HX := Lib.hid hx; clear hx
            have H1 := Lib.hid hb1; clear hb1
            have H2 := Lib.hid hb2; clear hb2
            have H4 := Lib.hid hb4; clear hb4
            have hz := hd.size
            by_cases hx4 : x ≤ 4
            · have hc1 := (hd.cell (p := ⟨b1, o1 + i, none⟩) (by show b1 < _; omega)).trans c1
              have z1 : b1 < wr.heap.size := by omega
              have i2 : (k : Int) < t.length := by omega
              have hs2 := (hs1.below (hd.mono hB)).keep (w' := wr.alloc (.cells #[] 3)) (fun p hp => World.cell?_alloc_lt _ _ _ (by omega))
              have hown0 : (wr.alloc (.cells #[] 3)).ownsRow wr.heap.size 3 1 (.slice (some ⟨wr.heap.size, 0, none⟩) 0 0) 0 [] := World.ownsRow_made wr #[] 0 (Nat.le_refl _) (Nat.zero_le _) rfl
              have hdA : Below w.heap.size w (wr.alloc (.cells #[] 3)) := hd.alloc hz _
              have h63 : 0 + t.length ≤ maxLen := by unfold maxLen; omega
              have hby : (0 + t.length) * 8 ≤ 140737488355328 := by omega
              have hbase : wr.heap.size ≤ (wr.alloc (.cells #[] 3)).heap.size := by simp
              go_wp2_with (at_builtin; refine wpList_append_any _ rfl (.tmp 26) (.tmp 30) _ rfl wr.heap.size 3 i0 _ 1 8 Tryd.underlying37 hi0 hz0 hz1 hz2 rfl (Nat.le_refl _) _ 0 [] rfl hown0 B A1 t.length c1' _ rfl hs2 (ints_one t) h63 hby hbase ?_; intro v1 w1 hown1 hg1 hat1; refine Hid.out ?_)
              refine Lib.hid ?_
              simp only [Nat.zero_add, List.nil_append] at hown1
              obtain ⟨g, cap, hv, gb, gl, hob⟩ := own_form hown1 (by omega)
              subst hv
              have hd1 : Below w.heap.size w w1 := hdA.grown hg1 (by simp; omega) (fun k hk => (Option.some.inj hk) ▸ hz)
              clear hs2 hown0 hdA h63 hby hbase hg1 hat1 hob hd
              have c5 : w1.cell? ⟨g, k, none⟩ = some (.int .i64 (t.getD k 0)) := by rw [hown1.cellAt k (by omega)]; simp [List.getElem?_eq_getElem hlt2]
              have f5 : w1.frozen? ⟨g, k, none⟩ = false := hown1.frozenAt k
              have HG := Lib.hid (show okBit t k rows x = (!(bits .and .i64 (t.getD k 0) x == 0) || falseB (t.set k (bits .or .i64 (t.getD k 0) x)) rows) from rfl)
              have HO := Lib.hid hown1
              clear hown1
              generalize t.getD k 0 = y at *
              by_cases hby : (bits .and .i64 y x != 0) = true
              · have HB := Lib.hid (show okBit t k rows x = true by rw [HG.out]; simp only [bne] at hby; rw [hby]; rfl)
                go_wp2
                go_roundw
                case rel =>
                    obtain ⟨n1, n2, n3, n4, n5, n6⟩ := next_bit (okb := okBit t k rows) HX.out hx4 HB.out H1.out H2.out
                    exact ⟨x * 2, n1, n2, rfl, n3, n4, n5, n6, hd1⟩
                case measure => simp [intOf]; omega
              · have hby' : (bits .and .i64 y x != 0) = false := by simpa using hby
                clear hby
                have HG2 := Lib.hid (show okBit t k rows x = falseB (t.set k (bits .or .i64 y x)) rows by rw [HG.out]; simp only [bne, Bool.not_eq_false'] at hby'; rw [hby']; rfl)
                have hown2 := ((HO.out).stored k (.int .i64 (bits .or .i64 y x))).1
                rw [← List.map_set] at hown2
                have hrd := Reads.of_own hown2
                have hr2 : RowsAt (w1.setCell ⟨g, k, none⟩ (.int .i64 (bits .or .i64 y x))) (w1.setCell ⟨g, k, none⟩ (.int .i64 (bits .or .i64 y x))).heap.size A rows := ((hr.below (hd1.mono hB)).keep (fun p hp => World.cell?_setCell_other _ _ _ _ (by rintro rfl; simp at hp; omega))).more (by have := hd1.size; simp [World.setCell]; omega)
                have hd2 : Below w.heap.size w (w1.setCell ⟨g, k, none⟩ (.int .i64 (bits .or .i64 y x))) := hd1.setCell (by show _ ≤ g; omega) _
                have HO2 := Lib.hid hown2; clear hown2
                go_wp2_with fail
                generalize w1.setCell ⟨g, k, none⟩ (.int .i64 (bits .or .i64 y x)) = w2 at *
                refine (pFalse_any _ _ _ _ _ _ w2.heap.size (t.set k (bits .or .i64 y x)) rows w2 (Nat.le_refl _) hrd hr2 HN.out hn0 h1000 HQ.out HV.out).mono ?_
                rintro e w3 ⟨rfl, hb3⟩
                have HD1 : Below w.heap.size w w3 := hd2.trans (hb3.mono hd2.size)
                cases hfb : falseB (t.set k (bits .or .i64 y x)) rows
                · have HFB := Lib.hid hfb
                  go_wp2
                  go_ret
                  refine ⟨ret_bool (HF.out ?_).symm, HD1⟩
                  have hok : okBit t k rows x = false := by rw [HG2.out, HFB.out]
                  refine allTo_false (k := k) ?_ hlt2
                  unfold primeAt
                  rcases HX.out with h | h | h | h
                  · rw [h] at hok; rw [hok]; rfl
                  · rw [h] at hok; rw [hok]; simp
                  · rw [h] at hok; rw [hok]; simp
                  · omega
                · have HB := Lib.hid (show okBit t k rows x = true by rw [HG2.out, hfb])
                  go_wp2
                  go_roundw
                  case rel =>
                    obtain ⟨n1, n2, n3, n4, n5, n6⟩ := next_bit (okb := okBit t k rows) HX.out hx4 HB.out H1.out H2.out
                    exact ⟨x * 2, n1, n2, rfl, n3, n4, n5, n6, HD1⟩
                  case measure => simp [intOf]; omega
            · have HS2 := Lib.hid (allTo_succ (primeAt t rows) k)
              go_wp2
              go_roundw
              case rel =>
                refine ⟨k + 1, by omega, by go_num, ?_, hd⟩
                rw [HS2.out, HP2.out]
                unfold primeAt
                rw [H1.out (by omega), H2.out (by omega), H4.out (by rcases HX.out with h | h | h | h <;> omega)]
                rfl
              case measure => simp [intOf]; omega
        · go_wp2
          go_roundw
          case rel => exact ⟨i + 1, by omega, by go_num, by rw [HS.out, HP.out]; have := HP2.out; rw [show k = t.length by omega] at this; exact this, hd⟩
          case measure => simp [intOf]; omega
    · go_wp2
      go_ret
      refine ⟨ret_bool ?_, hd⟩
      have := HP.out
      rw [show i = m by omega, HM.out] at this
      exact this.symm
end Go.Proofs.YtlfjpfbkkbhhjaaDoor
