/- Contracts of the reference's Sets and Prime, for at most 1000 rows of at most 6 valid signs and at most 1000 terms. -/
import Derived.Deep.DeepCutAuto
import Derived.Deep.LoopGhost
import Derived.Test.YtkkliemgidhgmaaGreatDoorQW
import Derived.Test.YtkkliemgidhgmaaGreatDoorZN
namespace Go.Proofs.YtkkliemgidhgmaaGreatDoor
open Go.RowKit

def setB (t : List Int) (k : Nat) : Bool := decide (1 ≤ t.getD k 0) && decide (t.getD k 0 ≤ 7)
def termOk (x : Int) (t : List Int) : Bool := decide ((t.length : Int) = x) && allTo (setB t) t.length
def setsB (x : Int) (ts : List (List Int)) : Bool := allTo (fun k => termOk x (ts.getD k [])) ts.length

theorem Tryz.infoInt : (Tryz.prog.info? 3).map (fun i => (i.zero, i.size, i.bytes)) = some (some (.int .i64 0), 1, 8) := by kernel_rfl

def okBit (t : List Int) (k : Nat) (rows : List (List Int × Bool)) (b : Int) : Bool := !(bits .and .i64 (t.getD k 0) b == 0) || falseB (t.set k (bits .or .i64 (t.getD k 0) b)) rows
def primeAt (t : List Int) (rows : List (List Int × Bool)) (k : Nat) : Bool := okBit t k rows 1 && okBit t k rows 2 && okBit t k rows 4
def primeT (t : List Int) (rows : List (List Int × Bool)) : Bool := allTo (primeAt t rows) t.length
def primeB (ts : List (List Int)) (rows : List (List Int × Bool)) : Bool := allTo (fun i => primeT (ts.getD i []) rows) ts.length

theorem next_bit {okb : Int → Bool} {x : Int} (hx : x = 1 ∨ x = 2 ∨ x = 4 ∨ x = 8) (x4 : x ≤ 4) (hb : okb x = true) (h1 : 2 ≤ x → okb 1 = true) (h2 : 4 ≤ x → okb 2 = true) :
    1 ≤ x * 2 ∧ x * 2 ≤ 8 ∧ (x * 2 = 1 ∨ x * 2 = 2 ∨ x * 2 = 4 ∨ x * 2 = 8) ∧ (2 ≤ x * 2 → okb 1 = true) ∧ (4 ≤ x * 2 → okb 2 = true) ∧ (8 ≤ x * 2 → okb 4 = true) := by
  rcases hx with rfl | rfl | rfl | rfl
  · exact ⟨by omega, by omega, by omega, fun _ => hb, by omega, by omega⟩
  · exact ⟨by omega, by omega, by omega, fun _ => h1 (by omega), fun _ => hb, by omega⟩
  · exact ⟨by omega, by omega, by omega, fun _ => h1 (by omega), fun _ => h2 (by omega), fun _ => hb⟩
  · omega
set_option maxHeartbeats 1000000 in
theorem Prime_any (A0 A : Option Addr) (m n c0 c B : Nat) (ts : List (List Int)) (rows : List (List Int × Bool)) (w : World) (hB : B ≤ w.heap.size) (ht : ListsAt w B A0 ts) (hr : RowsAt w B A rows) (hm : m = ts.length) (hn : n = rows.length)
    (hm0 : m ≤ 1000) (hn0 : n ≤ 1000) (hqt : ∀ k, k < ts.length → (ts.getD k []).length ≤ 1000) (hq : ∀ k, k < rows.length → (sg rows k).length ≤ 6) (hv : ∀ k, k < rows.length → ∀ x ∈ sg rows k, -1 ≤ x ∧ x ≤ 1) :
    Calls Tryz.prog 14 #[.slice A0 m c0, .slice A n c] w fun e w' => e = .returned (.bool (primeB ts rows)) ∧ Below w.heap.size w w' := by
  have HN := Lib.hid hn; clear hn
  have HM := Lib.hid hm; clear hm
  have HQ := Lib.hid hq; clear hq
  have HQT := Lib.hid hqt; clear hqt
  have HV := Lib.hid hv; clear hv
  obtain ⟨i0, hi0, hz0, hz1, hz2⟩ := info_parts Tryz.infoInt
  go_enter Tryz.func14, Tryz.ntmps14
  go_wp2
  go_loopw [5, 6, 7, 8, 11] (fun _ _ _ _ i wr => ∃ (k : Nat), k ≤ m ∧ i = .int .i64 k ∧ allTo (fun i => primeT (ts.getD i []) rows) k = true ∧ Below w.heap.size w wr) (fun _ _ _ _ i _ => m - (intOf i).toNat)
  case atStart => exact ⟨0, Nat.zero_le _, rfl, rfl, .refl _ _⟩
  case round =>
    obtain ⟨i, hi, rfl, hp, hd⟩ := hrel
    have HP := Lib.hid hp; clear hp
    obtain ⟨wo, rfl⟩ : ∃ wo : World, wo = wr := ⟨_, rfl⟩
    by_cases hlt : i < m
    · obtain ⟨b1, o1, A1, c1', rfl, q1, c1, hs1⟩ := ht.at_ (k := i) (by have := HM.out; omega)
      have hc1 := (hd.cell (p := ⟨b1, o1 + i, none⟩) (by show b1 < _; omega)).trans c1
      have i1 : (i : Int) < m := by omega
      have HS := Lib.hid (allTo_succ (fun i => primeT (ts.getD i []) rows) i)
      have HF := Lib.hid (fun h : primeT (ts.getD i []) rows = false => show primeB ts rows = false by
        have := @allTo_false (fun i => primeT (ts.getD i []) rows) i m h hlt
        rw [HM.out] at this
        exact this)
      have h1000 := HQT.out i (by have := HM.out; omega)
      generalize ts.getD i [] = t at *
      go_wp2
      go_loopw [6, 7, 8, 19] (fun _ _ _ j wr => ∃ (k : Nat), k ≤ t.length ∧ j = .int .i64 k ∧ allTo (primeAt t rows) k = true ∧ Below w.heap.size w wr) (fun _ _ _ j _ => t.length - (intOf j).toNat)
      case atStart => exact ⟨0, Nat.zero_le _, rfl, rfl, hd⟩
      case round =>
        clear hd hc1
        obtain ⟨k, hk, rfl, hp2, hd⟩ := hrel
        have HP2 := Lib.hid hp2; clear hp2
        obtain ⟨wo2, rfl⟩ : ∃ wo2 : World, wo2 = wr := ⟨_, rfl⟩
        by_cases hlt2 : k < t.length
        · go_wp2
          go_loopw [7, 8] (fun b _ wr => ∃ x : Int, 1 ≤ x ∧ x ≤ 8 ∧ b = .int .i64 x ∧ (x = 1 ∨ x = 2 ∨ x = 4 ∨ x = 8) ∧ (2 ≤ x → okBit t k rows 1 = true) ∧ (4 ≤ x → okBit t k rows 2 = true) ∧ (8 ≤ x → okBit t k rows 4 = true) ∧ Below w.heap.size w wr) (fun b _ _ => 8 - (intOf b).toNat)
          case atStart => exact ⟨1, by omega, by omega, rfl, .inl rfl, by omega, by omega, by omega, hd⟩
          case round =>
            clear hd
            obtain ⟨x, x1, x8, rfl, hx, hb1, hb2, hb4, hd⟩ := hrel
            have HX := Lib.hid hx; clear hx
            have H1 := Lib.hid hb1; clear hb1
            have H2 := Lib.hid hb2; clear hb2
            have H4 := Lib.hid hb4; clear hb4
            have hz := hd.size
            by_cases hx4 : x ≤ 4
            · have hc1 := (hd.cell (p := ⟨b1, o1 + i, none⟩) (by show b1 < _; omega)).trans c1
              have z1 : b1 < wr.heap.size := by omega
              have i2 : (k : Int) < t.length := by omega
              have hs2 := (hs1.below (hd.mono hB)).keep (w' := wr.alloc (.cells #[] 3)) (fun p hp => World.cell?_alloc_lt _ _ _ (by omega))
              have hown0 : (wr.alloc (.cells #[] 3)).ownsRow wr.heap.size 3 1 (.slice (some ⟨wr.heap.size, 0, none⟩) 0 0) 0 [] := World.ownsRow_made wr #[] 0 (Nat.le_refl _) (Nat.zero_le _) rfl
              have hdA : Below w.heap.size w (wr.alloc (.cells #[] 3)) := hd.alloc hz _
              have h63 : 0 + t.length ≤ maxLen := by unfold maxLen; omega
              have hby : (0 + t.length) * 8 ≤ 140737488355328 := by omega
              have hbase : wr.heap.size ≤ (wr.alloc (.cells #[] 3)).heap.size := by simp
              go_wp2_with (at_builtin; refine wpList_append_any _ rfl (.tmp 26) (.tmp 30) _ rfl wr.heap.size 3 i0 _ 1 8 Tryz.underlying59 hi0 hz0 hz1 hz2 rfl (Nat.le_refl _) _ 0 [] rfl hown0 B A1 t.length c1' _ rfl hs2 (ints_one t) h63 hby hbase ?_; intro v1 w1 hown1 hg1 hat1; refine Hid.out ?_)
              refine Lib.hid ?_
              simp only [Nat.zero_add, List.nil_append] at hown1
              obtain ⟨g, cap, hv, gb, gl, hob⟩ := own_form hown1 (by omega)
              subst hv
              have hd1 : Below w.heap.size w w1 := hdA.grown hg1 (by simp; omega) (fun k hk => (Option.some.inj hk) ▸ hz)
              clear hs2 hown0 hdA h63 hby hbase hg1 hat1 hob hd
              have c5 : w1.cell? ⟨g, k, none⟩ = some (.int .i64 (t.getD k 0)) := by rw [hown1.cellAt k (by omega)]; simp [List.getElem?_eq_getElem hlt2]
              have f5 : w1.frozen? ⟨g, k, none⟩ = false := hown1.frozenAt k
              have HG := Lib.hid (show okBit t k rows x = (!(bits .and .i64 (t.getD k 0) x == 0) || falseB (t.set k (bits .or .i64 (t.getD k 0) x)) rows) from rfl)
              have HO := Lib.hid hown1
              clear hown1
              generalize t.getD k 0 = y at *
              by_cases hby : (bits .and .i64 y x != 0) = true
              · have HB := Lib.hid (show okBit t k rows x = true by rw [HG.out]; simp only [bne] at hby; rw [hby]; rfl)
                go_wp2
                go_roundw
                case rel =>
                    obtain ⟨n1, n2, n3, n4, n5, n6⟩ := next_bit (okb := okBit t k rows) HX.out hx4 HB.out H1.out H2.out
                    exact ⟨x * 2, n1, n2, rfl, n3, n4, n5, n6, hd1⟩
                case measure => simp [intOf]; omega
              · have hby' : (bits .and .i64 y x != 0) = false := by simpa using hby
                clear hby
                have HG2 := Lib.hid (show okBit t k rows x = falseB (t.set k (bits .or .i64 y x)) rows by rw [HG.out]; simp only [bne, Bool.not_eq_false'] at hby'; rw [hby']; rfl)
                have hown2 := ((HO.out).stored k (.int .i64 (bits .or .i64 y x))).1
                rw [← List.map_set] at hown2
                have hrd := Reads.of_own hown2
                have hr2 : RowsAt (w1.setCell ⟨g, k, none⟩ (.int .i64 (bits .or .i64 y x))) (w1.setCell ⟨g, k, none⟩ (.int .i64 (bits .or .i64 y x))).heap.size A rows := ((hr.below (hd1.mono hB)).keep (fun p hp => World.cell?_setCell_other _ _ _ _ (by rintro rfl; simp at hp; omega))).more (by have := hd1.size; simp [World.setCell]; omega)
                have hd2 : Below w.heap.size w (w1.setCell ⟨g, k, none⟩ (.int .i64 (bits .or .i64 y x))) := hd1.setCell (by show _ ≤ g; omega) _
                have HO2 := Lib.hid hown2; clear hown2
                go_wp2_with fail
                generalize w1.setCell ⟨g, k, none⟩ (.int .i64 (bits .or .i64 y x)) = w2 at *
                refine (pFalse_any _ _ _ _ _ _ w2.heap.size (t.set k (bits .or .i64 y x)) rows w2 (Nat.le_refl _) hrd hr2 HN.out hn0 h1000 HQ.out HV.out).mono ?_
                rintro e w3 ⟨rfl, hb3⟩
                have HD1 : Below w.heap.size w w3 := hd2.trans (hb3.mono hd2.size)
                cases hfb : falseB (t.set k (bits .or .i64 y x)) rows
                · have HFB := Lib.hid hfb
                  go_wp2
                  go_ret
                  refine ⟨ret_bool (HF.out ?_).symm, HD1⟩
                  have hok : okBit t k rows x = false := by rw [HG2.out, HFB.out]
                  refine allTo_false (k := k) ?_ hlt2
                  unfold primeAt
                  rcases HX.out with h | h | h | h
                  · rw [h] at hok; rw [hok]; rfl
                  · rw [h] at hok; rw [hok]; simp
                  · rw [h] at hok; rw [hok]; simp
                  · omega
                · have HB := Lib.hid (show okBit t k rows x = true by rw [HG2.out, hfb])
                  go_wp2
                  go_roundw
                  case rel =>
                    obtain ⟨n1, n2, n3, n4, n5, n6⟩ := next_bit (okb := okBit t k rows) HX.out hx4 HB.out H1.out H2.out
                    exact ⟨x * 2, n1, n2, rfl, n3, n4, n5, n6, HD1⟩
                  case measure => simp [intOf]; omega
            · have HS2 := Lib.hid (allTo_succ (primeAt t rows) k)
              go_wp2
              go_roundw
              case rel =>
                refine ⟨k + 1, by omega, by go_num, ?_, hd⟩
                rw [HS2.out, HP2.out]
                unfold primeAt
                rw [H1.out (by omega), H2.out (by omega), H4.out (by rcases HX.out with h | h | h | h <;> omega)]
                rfl
              case measure => simp [intOf]; omega
        · go_wp2
          go_roundw
          case rel => exact ⟨i + 1, by omega, by go_num, by rw [HS.out, HP.out]; have := HP2.out; rw [show k = t.length by omega] at this; exact this, hd⟩
          case measure => simp [intOf]; omega
    · go_wp2
      go_ret
      refine ⟨ret_bool ?_, hd⟩
      have := HP.out
      rw [show i = m by omega, HM.out] at this
      exact this.symm
end Go.Proofs.YtkkliemgidhgmaaGreatDoor

/- Contract of the reference's Needed, for at most 1000 rows of at most 6 valid signs and at most 1000 terms. -/
namespace Go.Proofs.YtkkliemgidhgmaaGreatDoor
open Go.RowKit

def otherAt (ts : List (List Int)) (rows : List (List Int × Bool)) (i k j : Nat) : Bool := (j == i) || !permT (ts.getD j []) (sg rows k)
def baseAt (ts : List (List Int)) (rows : List (List Int × Bool)) (i k : Nat) : Bool := tr rows k && permT (ts.getD i []) (sg rows k)
def aloneAt (ts : List (List Int)) (rows : List (List Int × Bool)) (i k : Nat) : Bool := baseAt ts rows i k && allTo (otherAt ts rows i k) ts.length
def needT (ts : List (List Int)) (rows : List (List Int × Bool)) (i : Nat) : Bool := anyTo (aloneAt ts rows i) rows.length
def needB (ts : List (List Int)) (rows : List (List Int × Bool)) : Bool := allTo (needT ts rows) ts.length

set_option maxHeartbeats 2000000 in
set_option maxRecDepth 100000 in
theorem Needed_any (A0 A : Option Addr) (m n c0 c B : Nat) (ts : List (List Int)) (rows : List (List Int × Bool)) (w : World) (hB : B ≤ w.heap.size) (ht : ListsAt w B A0 ts) (hr : RowsAt w B A rows) (hm : m = ts.length) (hn : n = rows.length)
    (hm0 : m ≤ 1000) (hn0 : n ≤ 1000) (hqt : ∀ k, k < ts.length → (ts.getD k []).length ≤ 1000) (hq : ∀ k, k < rows.length → (sg rows k).length ≤ 6) (hv : ∀ k, k < rows.length → ∀ x ∈ sg rows k, -1 ≤ x ∧ x ≤ 1) :
    Calls Tryz.prog 15 #[.slice A0 m c0, .slice A n c] w fun e w' => e = .returned (.bool (needB ts rows)) ∧ Below w.heap.size w w' := by
  have HN := Lib.hid hn; clear hn
  have HM := Lib.hid hm; clear hm
  have HQ := Lib.hid hq; clear hq
  have HQT := Lib.hid hqt; clear hqt
  have HV := Lib.hid hv; clear hv
  go_enter Tryz.func15, Tryz.ntmps15
  go_wp2
  go_loopg [5, 6, 7, 8, 9, 12] m (fun gn _ _ _ _ _ i wr => ∃ (k : Nat), k ≤ m ∧ gn = m - k ∧ i = .int .i64 k ∧ allTo (needT ts rows) k = true ∧ Below w.heap.size w wr)
  case atStart => exact ⟨0, Nat.zero_le _, rfl, rfl, rfl, .refl _ _⟩
  case round =>
    obtain ⟨i, hi, hgi, rfl, hp, hd⟩ := hrel
    have HGI := Lib.hid hgi; clear hgi
    have HP := Lib.hid hp; clear hp
    obtain ⟨wo, rfl⟩ : ∃ wo : World, wo = wr := ⟨_, rfl⟩
    by_cases hlt : i < m
    · have i1 : (i : Int) < m := by omega
      have HS := Lib.hid (allTo_succ (needT ts rows) i)
      have HF := Lib.hid (fun h : needT ts rows i = false => show needB ts rows = false by
        have := @allTo_false (needT ts rows) i m h hlt
        rw [HM.out] at this
        exact this)
      go_wp2
      go_loopg [6, 7, 8, 9, 17] n (fun gn f _ _ _ j wr => ∃ (k : Nat), k ≤ n ∧ gn = n - k ∧ j = .int .i64 k ∧ f = .bool (anyTo (aloneAt ts rows i) k) ∧ Below w.heap.size w wr)
      case atStart => exact ⟨0, Nat.zero_le _, rfl, rfl, rfl, hd⟩
      case round =>
        clear hd
        obtain ⟨k, hk, hgk, rfl, rfl, hd⟩ := hrel
        have HGK := Lib.hid hgk; clear hgk
        obtain ⟨wo2, rfl⟩ : ∃ wo2 : World, wo2 = wr := ⟨_, rfl⟩
        have HS2 := Lib.hid (anyTo_succ (aloneAt ts rows i) k)
        generalize hfk : anyTo (aloneAt ts rows i) k = fk at *
        have HFK := Lib.hid hfk; clear hfk
        by_cases hlt2 : k < n
        · have hz := hd.size
          obtain ⟨b1, o1, A1, c1', rfl, q1, d1, d2, hs1⟩ := hr.at_ (k := k) (by have := HN.out; omega)
          have i2 : (k : Int) < n := by omega
          have h6 := HQ.out k (by have := HN.out; omega)
          have HVk := Lib.hid (HV.out k (by have := HN.out; omega))
          have HA := Lib.hid (show aloneAt ts rows i k = (baseAt ts rows i k && allTo (otherAt ts rows i k) ts.length) from rfl)
          have HG0 := Lib.hid (show baseAt ts rows i k = (tr rows k && permT (ts.getD i []) (sg rows k)) from rfl)
          have HG : Hid (∀ j, otherAt ts rows i k j = ((j == i) || !permT (ts.getD j []) (sg rows k))) := fun j => rfl
          generalize sg rows k = sk at *
          generalize tr rows k = tk at *
          generalize baseAt ts rows i k = ba at *
          -- the three ways of the first region meet again in the slot 8
          have c1 := (hd.cell (p := ⟨b1, o1 + k * 2, none⟩) (by show b1 < _; omega)).trans d1
          have c2 := (hd.cell (p := ⟨b1, o1 + k * 2 + 1, none⟩) (by show b1 < _; omega)).trans d2
          go_upto_region 8 with (fail)
          go_cut [8] (fun al wc => al = .bool ba ∧ Below w.heap.size w wc)
          case first =>
            cases tk
            · have hz0 : True := trivial
              go_quiet (fail)
              go_wp2
              go_meet
              case rel => exact ⟨by rw [HG0.out]; rfl, hd.trans ((Drawn.drewN _ _).below _)⟩
            · obtain ⟨b2, o2, A2, c2', rfl, q2, d3, hs2⟩ := (ht.below (hd.mono hB)).at_ (k := i) (by have := HM.out; omega)
              have ht1000 := HQT.out i (by have := HM.out; omega)
              have z1 : b1 < wo2.drew.heap.size := by simp; omega
              have z2 : b2 < wo2.drew.heap.size := by simp; omega
              have z0 : B ≤ wo2.drew.heap.size := by simp; omega
              have h6' : sk.length ≤ 1000 := by omega
              have hs1' := hs1.below (hd.mono hB)
              generalize ts.getD i [] = ti at *
              go_region_held3 (fun w' => w'.cell? ⟨b1, o1 + k * 2, none⟩ = some (.slice A1 sk.length c1') ∧ w'.cell? ⟨b1, o1 + k * 2 + 1, none⟩ = some (.bool true) ∧ w'.cell? ⟨b2, o2 + i, none⟩ = some (.slice A2 ti.length c2')) (first | exact ⟨c1, c2, d3⟩ | exact ⟨(hb1.cell z1).trans c1, (hb1.cell z1).trans c2, (hb1.cell z2).trans d3⟩)
                (first | (go_at_call 25; refine (PermitsT _ _ _ _ _ _ B ti sk _ z0 hs2 hs1' ht1000 h6' HVk.out).mono ?_; rintro e w1 ⟨rfl, hb1⟩))
              go_wp2
              go_meet
              case rel => exact ⟨by rw [HG0.out]; rfl, hd.drew.trans (hb1.mono (by simp; omega))⟩
          case rest =>
            obtain ⟨rfl, hd2⟩ := hcut
            clear hd c1 c2 hz
            go_wp2
            go_loopg [8, 9, 39] m (fun gn al _ j wr => ∃ (q : Nat), q ≤ m ∧ gn = m - q ∧ j = .int .i64 q ∧ al = .bool (ba && allTo (otherAt ts rows i k) q) ∧ Below w.heap.size w wr)
            case atStart => exact ⟨0, Nat.zero_le _, rfl, rfl, by simp [allTo], hd2⟩
            case round =>
              clear hd2
              obtain ⟨q, hq, hgq, rfl, rfl, hd⟩ := hrel
              have HGQ := Lib.hid hgq; clear hgq
              have hz := hd.size
              by_cases hlt3 : q < m
              · have i3 : (q : Int) < m := by omega
                have HS3 := Lib.hid (allTo_succ (otherAt ts rows i k) q)
                have HGq := Lib.hid (HG.out q)
                have c1 := (hd.cell (p := ⟨b1, o1 + k * 2, none⟩) (by show b1 < _; omega)).trans d1
                generalize hal : (ba && allTo (otherAt ts rows i k) q) = al at *
                have HAL := Lib.hid hal; clear hal
                have HNX := Lib.hid (show (ba && allTo (otherAt ts rows i k) (q + 1)) = (al && otherAt ts rows i k q) by rw [HS3.out, ← HAL.out, Bool.and_assoc])
                cases al
                · go_wp2
                  go_quiet (fail)
                  go_wp2
                  go_roundg (m - (q + 1))
                  case rel => exact ⟨q + 1, by omega, rfl, by go_num, by rw [HNX.out]; rfl, hd.trans ((Drawn.drewN _ _).below _)⟩
                  case measure => have := HGQ.out; omega
                · by_cases hqi : q = i
                  · have e1 : ((q : Int) == (i : Int)) = true := by rw [hqi]; simp
                    have HE := Lib.hid (show otherAt ts rows i k q = true by rw [HGq.out, hqi]; simp)
                    clear hqi
                    go_wp2
                    go_quiet (fail)
                    go_wp2
                    go_roundg (m - (q + 1))
                    case rel => exact ⟨q + 1, by omega, rfl, by go_num, by rw [HNX.out, HE.out]; rfl, hd.trans ((Drawn.drewN _ _).below _)⟩
                    case measure => have := HGQ.out; omega
                  · have e1 : ((q : Int) == (i : Int)) = false := by simp; omega
                    have HE := Lib.hid (show otherAt ts rows i k q = !permT (ts.getD q []) sk by rw [HGq.out, beq_eq_false_iff_ne.2 hqi]; rfl)
                    clear hqi
                    obtain ⟨b2, o2, A2, c2', rfl, q2, d3, hs2⟩ := (ht.below (hd.mono hB)).at_ (k := q) (by have := HM.out; omega)
                    have ht1000 := HQT.out q (by have := HM.out; omega)
                    have z1 : b1 < wr.drew.heap.size := by simp; omega
                    have z2 : b2 < wr.drew.heap.size := by simp; omega
                    have z0 : B ≤ wr.drew.heap.size := by simp; omega
                    have h6' : sk.length ≤ 1000 := by omega
                    have hs1' := hs1.below (hd.mono hB)
                    generalize ts.getD q [] = tq at *
                    go_wp2
                    go_region_held3 (fun w' => w'.cell? ⟨b1, o1 + k * 2, none⟩ = some (.slice A1 sk.length c1') ∧ w'.cell? ⟨b2, o2 + q, none⟩ = some (.slice A2 tq.length c2')) (first | exact ⟨c1, d3⟩ | exact ⟨(hb1.cell z1).trans c1, (hb1.cell z2).trans d3⟩)
                      (first | (go_at_call 25; refine (PermitsT _ _ _ _ _ _ B tq sk _ z0 hs2 hs1' ht1000 h6' HVk.out).mono ?_; rintro e w1 ⟨rfl, hb1⟩))
                    go_wp2
                    go_roundg (m - (q + 1))
                    case rel => exact ⟨q + 1, by omega, rfl, by go_num, by rw [HNX.out, HE.out]; rfl, hd.drew.trans (hb1.mono (by simp; omega))⟩
                    case measure => have := HGQ.out; omega
              · have HAL := Lib.hid (show aloneAt ts rows i k = (ba && allTo (otherAt ts rows i k) q) by rw [HA.out, show q = ts.length by have := HM.out; omega])
                generalize (ba && allTo (otherAt ts rows i k) q) = al at *
                cases fk
                all_goals
                  go_wp2
                  go_roundg (n - (k + 1))
                  case rel => exact ⟨k + 1, by omega, rfl, by go_num, by rw [HS2.out, HAL.out]; rfl, hd⟩
                  case measure => have := HGK.out; omega
        · cases fk
          · go_wp2
            go_ret
            refine ⟨ret_bool (HF.out ?_).symm, hd⟩
            have := HFK.out
            rw [show k = n by omega, HN.out] at this
            exact this
          · go_wp2
            go_roundg (m - (i + 1))
            case rel => exact ⟨i + 1, by omega, rfl, by go_num, by rw [HS.out, HP.out]; have := HFK.out; rw [show k = n by omega, HN.out] at this; exact this, hd⟩
            case measure => have := HGI.out; omega
    · go_wp2
      go_ret
      refine ⟨ret_bool ?_, hd⟩
      have := HP.out
      rw [show i = m by omega, HM.out] at this
      exact this.symm
end Go.Proofs.YtkkliemgidhgmaaGreatDoor
