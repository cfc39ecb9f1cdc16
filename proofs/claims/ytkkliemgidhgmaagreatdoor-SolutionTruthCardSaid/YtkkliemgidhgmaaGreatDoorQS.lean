/- Contract of solution.rowsOf, for at most 1000 rows of valid signs. -/
import Derived.Test.YtkkliemgidhgmaaGreatDoorQK
namespace Go.Proofs.YtkkliemgidhgmaaGreatDoor
open Go.RowKit

/-- the lists of signs: of one length, each sign -1, 0 or 1 -/
def Signs (N : Nat) (ys : List (List Int)) : Prop := ∀ k, k < ys.length → (ys.getD k []).length = N ∧ ∀ x ∈ ys.getD k [], -1 ≤ x ∧ x ≤ 1
def permY (t : List Int) (ys : List (List Int)) (k : Nat) : Bool := permTo t (ys.getD k []) (ys.getD k []).length
def rowsTo (t : List Int) (ys : List (List Int)) (k : Nat) : List Nat := (List.range k).filter (permY t ys)
theorem rowsTo_succ (t : List Int) (ys : List (List Int)) (k : Nat) : rowsTo t ys (k + 1) = rowsTo t ys k ++ (if permY t ys k then [k] else []) := by
  simp only [rowsTo, List.range_succ, List.filter_append]
  congr 1
  cases h : permY t ys k <;> simp [h]
theorem rowsTo_len (t : List Int) (ys : List (List Int)) (k : Nat) : (rowsTo t ys k).length ≤ k := by
  have := List.length_filter_le (permY t ys) (List.range k)
  simpa [rowsTo] using this
def ofNats (l : List Nat) : List Int := l.map (fun (i : Nat) => (i : Int))
def natCells (l : List Nat) : List Value := (ofNats l).map (Value.int .i64)

set_option maxHeartbeats 1000000 in
theorem rowsOf_any (A0 A : Option Addr) (m n c0 c B : Nat) (t : List Int) (ys : List (List Int)) (w : World) (hB : B ≤ w.heap.size) (ht : Reads w B 1 A0 m (t.map (Value.int .i64))) (hy : ListsAt w B A ys) (hn : n = ys.length)
    (hn0 : n ≤ 1000) (hm0 : m ≤ 1000) (hs : Signs m ys) :
    Calls Tryz.prog 60 #[.slice A0 m c0, .slice A n c] w fun e w' => ∃ A1 c1, e = .returned (.slice A1 (rowsTo t ys n).length c1) ∧ w'.ownsRow w.heap.size 3 1 (.slice A1 (rowsTo t ys n).length c1) (rowsTo t ys n).length (natCells (rowsTo t ys n)) ∧ Below w.heap.size w w' := by
  have HN := Lib.hid hn; clear hn
  have HSg := Lib.hid hs; clear hs
  obtain ⟨i0, hi0, hz0, hz1, hz2⟩ := info_parts Tryz.infoInt
  go_enter Tryz.func60, Tryz.ntmps60
  go_wp2
  go_loopg [5, 6, 7, 10] n (fun gn v _ _ i wr => ∃ (k : Nat), k ≤ n ∧ gn = n - k ∧ i = .int .i64 k ∧ wr.ownsRow w.heap.size 3 1 v (rowsTo t ys k).length (natCells (rowsTo t ys k)) ∧ Below w.heap.size w wr)
  case atStart => exact ⟨0, Nat.zero_le _, rfl, rfl, World.ownsRow_nil _ _ _ _, .refl _ _⟩
  case round =>
    obtain ⟨k, hk, hgk, rfl, hown, hd⟩ := hrel
    have HG := Lib.hid hgk; clear hgk
    have hz := hd.size
    have hrl := rowsTo_len t ys k
    by_cases hlt : k < n
    · obtain ⟨b1, o1, Ak, ck, rfl, q1, c1, hsk⟩ := (hy.below (hd.mono hB)).at_ (k := k) (by have := HN.out; omega)
      obtain ⟨hyl, hyr⟩ := HSg.out k (by have := HN.out; omega)
      have HYR := Lib.hid hyr; clear hyr
      have ht1 := ht.below (hd.mono hB)
      have HS := Lib.hid (rowsTo_succ t ys k)
      have HPY := Lib.hid (show permY t ys k = permTo t (ys.getD k []) (ys.getD k []).length from rfl)
      have hle : (ys.getD k []).length ≤ m := by omega
      clear hyl
      generalize ys.getD k [] = y at *
      generalize rowsTo t ys k = rk at *
      cases hp : permTo t y y.length
      · have HP := Lib.hid hp
        go_wp2_with (go_at_call 38; refine (permits_any _ _ _ _ _ _ B t y _ ht1 hsk hle hm0 HYR.out).mono ?_; rintro e w1 ⟨rfl, hd1⟩)
        go_roundg (n - (k + 1))
        case rel =>
          have e1 : rowsTo t ys (k + 1) = rk := by rw [HS.out, HPY.out, HP.out]; simp
          obtain ⟨q, rfl⟩ := hd1
          exact ⟨k + 1, by omega, rfl, by go_num, by rw [e1]; exact hown, hd.trans ((Drawn.drewN _ _).below _)⟩
        case measure => have := HG.out; omega
      · have HP := Lib.hid hp
        go_wp2_with (go_at_call 38; refine (permits_any _ _ _ _ _ _ B t y _ ht1 hsk hle hm0 HYR.out).mono ?_; rintro e w1 ⟨rfl, hd1⟩; refine Hid.out ?_)
        refine Lib.hid ?_
        have hown1 : w1.ownsRow w.heap.size 3 1 u5 rk.length (natCells rk) := by obtain ⟨q, rfl⟩ := hd1; exact hown
        have hd2 : Below w.heap.size w w1 := hd.trans (hd1.below _)
        have hz1' := hd2.size
        clear hown hd hd1 c1
        have hown2 := hown1.alloc (.cells #[.int .i64 (k : Int)] 3)
        have h63 : rk.length + 1 ≤ maxLen := by unfold maxLen; omega
        have hby : (rk.length + 1) * 8 ≤ 140737488355328 := by omega
        have hbase : w.heap.size ≤ (w1.alloc (.cells #[.int .i64 (k : Int)] 3)).heap.size := by simp; omega
        go_wp2_with (at_builtin; refine wpList_append_any _ rfl (.tmp 18) (.tmp 20) _ rfl w.heap.size 3 i0 _ 1 8 Tryz.underlying49 hi0 hz0 hz1 hz2 rfl (Nat.le_refl _) u5 _ _ rfl hown2 _ _ 1 1 _ rfl (Reads.one_new w1 (.int .i64 (k : Int)) 3) (by intro u hu; simp at hu; subst hu; rfl) h63 hby hbase ?_; intro v3 w3 hown3 hg3 hat3)
        go_roundg (n - (k + 1))
        case rel =>
          have e1 : rowsTo t ys (k + 1) = rk ++ [k] := by rw [HS.out, HPY.out, HP.out]; simp
          refine ⟨k + 1, by omega, rfl, by go_num, ?_, (hd2.alloc hz1' _).grown hg3 (by simp; omega) (fun q hq => (hown2.lt q hq).1)⟩
          rw [e1]
          simpa [natCells, ofNats] using hown3
        case measure => have := HG.out; omega
    · go_wp2
      obtain ⟨A1, cap, hv⟩ := own_slice hown
      subst hv
      go_ret
      exact ⟨A1, cap, by rw [show n = k by omega]; rfl, by rw [show n = k by omega]; exact hown, hd⟩
end Go.Proofs.YtkkliemgidhgmaaGreatDoor

/- Contracts of the closure in solution.needed and of slices.IndexFunc and ContainsFunc at that closure. -/
namespace Go.Proofs.YtkkliemgidhgmaaGreatDoor
open Go.RowKit

def cAt (cnt : List Int) (i : Nat) : Int := cnt.getD i 0
def oneAt (cnt : List Int) (i : Nat) : Bool := cAt cnt i == 1
/-- the counters: a cell that holds a slice, and its row -/
structure Counts (w : World) (pc g cap : Nat) (cnt : List Int) : Prop where
  cell : w.cell? ⟨pc, 0, none⟩ = some (.slice (some ⟨g, 0, none⟩) cnt.length cap)
  row : ∀ j, j < cnt.length → w.cell? ⟨g, j, none⟩ = some (.int .i64 (cAt cnt j))

theorem sclo_any (i pc g cap : Nat) (cnt : List Int) (w : World) (hc : Counts w pc g cap cnt) (hi : i < cnt.length) :
    Calls Tryz.prog 61 #[.int .i64 (i : Int), .pointer (some ⟨pc, 0, none⟩)] w fun e w' => e = .returned (.bool (oneAt cnt i)) ∧ w = w' := by
  have c1 := hc.cell
  have c2 := hc.row i hi
  have HO := Lib.hid (show oneAt cnt i = (cAt cnt i == 1) from rfl)
  generalize cAt cnt i = x at *
  go_enter Tryz.func61, Tryz.ntmps61
  go_wp2
  go_ret
  exact ⟨ret_bool HO.out.symm, rfl⟩

def hitAt (is : List Nat) (cnt : List Int) (k : Nat) : Bool := oneAt cnt (is.getD k 0)

theorem nats_at {w : World} {B n k : Nat} {A : Option Addr} {l : List Nat} (h : Reads w B 1 A n (natCells l)) (hk : k < n) :
    ∃ b o, A = some ⟨b, o, none⟩ ∧ b < B ∧ w.cell? ⟨b, o + k, none⟩ = some (.int .i64 ((l.getD k 0 : Nat) : Int)) := by
  obtain ⟨b, o, e, hb, hc⟩ := Reads.int_at h hk
  refine ⟨b, o, e, hb, ?_⟩
  rw [hc]
  have hl : k < l.length := by have := h.1; simp [natCells, ofNats] at this; omega
  simp [ofNats, List.getElem?_eq_getElem hl]

set_option maxHeartbeats 1000000 in
theorem idx_any (A : Option Addr) (n c B pc g cap : Nat) (is : List Nat) (cnt : List Int) (w : World) (hr : Reads w B 1 A n (natCells is)) (hc : Counts w pc g cap cnt) (hi : ∀ i ∈ is, i < cnt.length) (hn : n ≤ 1000) :
    Calls Tryz.prog 73 #[.slice A n c, .func (.func 61) #[] #[.pointer (some ⟨pc, 0, none⟩)]] w fun e w' => ∃ x : Int, -1 ≤ x ∧ x ≤ n ∧ e = .returned (.int .i64 x) ∧ decide (0 ≤ x) = anyTo (hitAt is cnt) n ∧ w = w' := by
  have HI := Lib.hid hi; clear hi
  have HL := Lib.hid (show is.length = n by have := hr.1; simpa [natCells, ofNats] using this)
  go_enter Tryz.func73, Tryz.ntmps73
  go_wp2
  go_loopg [5, 8] n (fun gn _ i wr => ∃ (k : Nat), k ≤ n ∧ gn = n - k ∧ i = .int .i64 k ∧ anyTo (hitAt is cnt) k = false ∧ w = wr)
  case atStart => exact ⟨0, Nat.zero_le _, rfl, rfl, rfl, rfl⟩
  case round =>
    obtain ⟨k, hk, hgk, rfl, hp, rfl⟩ := hrel
    have HG := Lib.hid hgk; clear hgk
    have HP := Lib.hid hp; clear hp
    by_cases hlt : k < n
    · obtain ⟨b1, o1, rfl, q1, c1⟩ := nats_at hr hlt
      have HS := Lib.hid (anyTo_succ (hitAt is cnt) k)
      have HH := Lib.hid (show hitAt is cnt k = oneAt cnt (is.getD k 0) from rfl)
      have HT := Lib.hid (@anyTo_true (hitAt is cnt) k n)
      have hik := HI.out (is.getD k 0) (by have := HL.out; simp [List.getElem?_eq_getElem (show k < is.length by omega)])
      have i1 : (k : Int) < n := by omega
      generalize is.getD k 0 = ik at *
      cases hb : oneAt cnt ik
      · have HB := Lib.hid hb
        go_wp2_with (go_at_call 61; refine (sclo_any ik pc g cap cnt _ hc hik).mono ?_; rintro e w1 ⟨rfl, rfl⟩)
        go_roundg (n - (k + 1))
        case rel => exact ⟨k + 1, by omega, rfl, by go_num, by rw [HS.out, HP.out, HH.out, HB.out]; rfl, rfl⟩
        case measure => have := HG.out; omega
      · have HB := Lib.hid hb
        go_wp2_with (go_at_call 61; refine (sclo_any ik pc g cap cnt _ hc hik).mono ?_; rintro e w1 ⟨rfl, rfl⟩)
        go_ret
        exact ⟨(k : Int), by omega, by omega, rfl, by rw [HT.out (by rw [HH.out, HB.out]) hlt]; simp, rfl⟩
    · go_wp2
      go_ret
      exact ⟨-1, by omega, by omega, rfl, by rw [show n = k by omega, HP.out]; rfl, rfl⟩

theorem cont_any (A : Option Addr) (n c B pc g cap : Nat) (is : List Nat) (cnt : List Int) (w : World) (hr : Reads w B 1 A n (natCells is)) (hc : Counts w pc g cap cnt) (hi : ∀ i ∈ is, i < cnt.length) (hn : n ≤ 1000) :
    Calls Tryz.prog 59 #[.slice A n c, .func (.func 61) #[] #[.pointer (some ⟨pc, 0, none⟩)]] w fun e w' => e = .returned (.bool (anyTo (hitAt is cnt) n)) ∧ w = w' := by
  go_enter Tryz.func59, Tryz.ntmps59
  go_wp2_with (go_at_call 73; refine (idx_any A n c B pc g cap is cnt _ hr hc hi hn).mono ?_; rintro e w1 ⟨x, x1, x2, rfl, hx, rfl⟩; refine Hid.out ?_)
  refine Lib.hid ?_
  have HX := Lib.hid hx; clear hx
  go_wp2
  go_ret
  exact ⟨ret_bool HX.out, rfl⟩
end Go.Proofs.YtkkliemgidhgmaaGreatDoor

/- Contract of solution.needed, for at most 1000 terms and rows of valid signs. -/
namespace Go.Proofs.YtkkliemgidhgmaaGreatDoor
open Go.RowKit

/-! ### what 'needed' reckons -/
def incTo (t : List Int) (ys : List (List Int)) (cnt : List Int) : Nat → List Int
  | 0 => cnt
  | i + 1 => if permY t ys i then (incTo t ys cnt i).set i (cAt (incTo t ys cnt i) i + 1) else incTo t ys cnt i
def cntTo (ts ys : List (List Int)) : Nat → List Int
  | 0 => List.replicate ys.length 0
  | k + 1 => incTo (ts.getD k []) ys (cntTo ts ys k) ys.length
def decTo (is : List Nat) (cnt : List Int) : Nat → List Int
  | 0 => cnt
  | q + 1 => (decTo is cnt q).set (is.getD q 0) (cAt (decTo is cnt q) (is.getD q 0) - 1)
def rowsL (t : List Int) (ys : List (List Int)) : List Nat := rowsTo t ys ys.length
def stTo (ts ys : List (List Int)) : Nat → List (List Int) × List Int
  | 0 => ([], cntTo ts ys ts.length)
  | j + 1 => if anyTo (hitAt (rowsL (ts.getD j []) ys) (stTo ts ys j).2) (rowsL (ts.getD j []) ys).length then ((stTo ts ys j).1 ++ [ts.getD j []], (stTo ts ys j).2)
      else ((stTo ts ys j).1, decTo (rowsL (ts.getD j []) ys) (stTo ts ys j).2 (rowsL (ts.getD j []) ys).length)

theorem cAt_set (l : List Int) (i j : Nat) (x : Int) (hi : i < l.length) : cAt (l.set i x) j = if i = j then x else cAt l j := by
  unfold cAt
  by_cases h : i = j
  · subst h; simp [hi]
  · simp [h]
theorem incTo_len (t : List Int) (ys : List (List Int)) (cnt : List Int) (i : Nat) : (incTo t ys cnt i).length = cnt.length := by
  induction i with
  | zero => rfl
  | succ i ih => unfold incTo; split <;> simp [ih]
theorem incTo_at (t : List Int) (ys : List (List Int)) (cnt : List Int) (i j : Nat) (hi : i ≤ cnt.length) : cAt (incTo t ys cnt i) j = cAt cnt j + if j < i ∧ permY t ys j = true then 1 else 0 := by
  induction i with
  | zero => simp [incTo]
  | succ i ih =>
    have ih := ih (by omega)
    unfold incTo
    by_cases hp : permY t ys i = true
    · rw [if_pos hp, cAt_set _ _ _ _ (by rw [incTo_len]; omega)]
      by_cases hij : i = j
      · subst hij
        rw [if_pos rfl, ih, if_neg (by omega), if_pos ⟨by omega, hp⟩]; omega
      · rw [if_neg hij, ih]
        congr 1
        by_cases h2 : j < i ∧ permY t ys j = true
        · rw [if_pos h2, if_pos ⟨by omega, h2.2⟩]
        · rw [if_neg h2, if_neg (fun h3 => h2 ⟨by omega, h3.2⟩)]
    · rw [if_neg hp, ih]
      congr 1
      by_cases h2 : j < i ∧ permY t ys j = true
      · rw [if_pos h2, if_pos ⟨by omega, h2.2⟩]
      · rw [if_neg h2, if_neg]
        rintro ⟨h3, h4⟩
        by_cases hij : j = i
        · subst hij; exact hp h4
        · exact h2 ⟨by omega, h4⟩
theorem cntTo_len (ts ys : List (List Int)) (k : Nat) : (cntTo ts ys k).length = ys.length := by
  induction k with
  | zero => simp [cntTo]
  | succ k ih => simp [cntTo, incTo_len, ih]
theorem cntTo_bd (ts ys : List (List Int)) (k j : Nat) : 0 ≤ cAt (cntTo ts ys k) j ∧ cAt (cntTo ts ys k) j ≤ k := by
  induction k with
  | zero =>
    simp only [cntTo, cAt]
    rw [List.getD_eq_getElem?_getD, List.getElem?_replicate]
    split <;> simp
  | succ k ih =>
    simp only [cntTo]
    rw [incTo_at _ _ _ _ _ (by rw [cntTo_len]; omega)]
    split <;> omega
theorem decTo_len (is : List Nat) (cnt : List Int) (q : Nat) : (decTo is cnt q).length = cnt.length := by
  induction q with
  | zero => rfl
  | succ q ih => simp [decTo, ih]
theorem decTo_bd (is : List Nat) (cnt : List Int) (q j : Nat) : cAt cnt j - q ≤ cAt (decTo is cnt q) j ∧ cAt (decTo is cnt q) j ≤ cAt cnt j := by
  induction q with
  | zero => simp [decTo]
  | succ q ih =>
    unfold decTo
    by_cases hb : is.getD q 0 < (decTo is cnt q).length
    · rw [cAt_set _ _ _ _ hb]
      split
      · rename_i h; rw [h]; omega
      · omega
    · rw [List.set_eq_of_length_le (by omega)]; omega
theorem stTo_len (ts ys : List (List Int)) (j : Nat) : (stTo ts ys j).2.length = ys.length := by
  induction j with
  | zero => exact cntTo_len ..
  | succ j ih =>
    unfold stTo
    split
    · exact ih
    · simp [decTo_len, ih]
theorem stTo_bd (ts ys : List (List Int)) (hy : ys.length ≤ 1000) (j i : Nat) : -(1000 * (j : Int)) ≤ cAt (stTo ts ys j).2 i ∧ cAt (stTo ts ys j).2 i ≤ ts.length := by
  induction j with
  | zero => have := cntTo_bd ts ys ts.length i; simp only [stTo]; omega
  | succ j ih =>
    unfold stTo
    split
    · simp only; omega
    · simp only
      have h1 := decTo_bd (rowsL (ts.getD j []) ys) (stTo ts ys j).2 (rowsL (ts.getD j []) ys).length i
      have h2 := rowsTo_len (ts.getD j []) ys ys.length
      unfold rowsL at *
      omega
theorem stTo_kept (ts ys : List (List Int)) (j : Nat) : (stTo ts ys j).1.length ≤ j := by
  induction j with
  | zero => simp [stTo]
  | succ j ih =>
    unfold stTo
    split
    · simp; omega
    · simp only; omega

def intArr (l : List Int) : Array Value := (l.map (Value.int .i64)).toArray
theorem intArr_at (l : List Int) (i : Nat) (h : i < l.length) : (intArr l)[i]? = some (.int .i64 (cAt l i)) := by
  simp [intArr, cAt, List.getElem?_eq_getElem h]
theorem intArr_set (l : List Int) (i : Nat) (x : Int) : (intArr l).setIfInBounds i (.int .i64 x) = intArr (l.set i x) := by
  simp [intArr, List.map_set]
theorem intArr_zero (n : Nat) : madeCells #[Value.int .i64 0] n = intArr (List.replicate n 0) := by
  apply Array.ext'
  rw [toList_madeCells_one]
  simp [intArr]
theorem run_make_ints {P : Program} (t e : TypeId) (i : TypeInfo) (ht : P.underlying t = some (.slice e)) (hi : P.info? e = some i) (hz : i.zero = some (.int .i64 0)) (hs : i.size = 1) (hb : i.bytes = 8) (n : Nat) (hn : n ≤ 100000) (w : World) :
    (Instr.makeSlice t (.int .i64 (n : Int)) (.int .i64 (n : Int))).run P w = .ok (.slice (some ⟨w.heap.size, 0, none⟩) n n) (w.alloc (.cells (intArr (List.replicate n 0)) e)) := by
  have hr := run_make (P := P) w t e i (.int .i64 0) ht hi hz .i64 .i64 n n (by omega) (by omega) (by rw [hb]; omega) (by omega)
  simp only [Int.toNat_natCast, hs, Nat.mul_one, Value.cells] at hr
  rw [hr, intArr_zero]

theorem Tryz.infoSolT : (Tryz.prog.info? 59).map (fun i => (i.zero, i.size, i.bytes)) = some (some (.slice none 0 0), 1, 24) := by kernel_rfl

set_option maxHeartbeats 2000000 in
set_option maxRecDepth 100000 in
theorem needed_any (A0 A : Option Addr) (m n N c0 c B : Nat) (ts ys : List (List Int)) (w : World) (hB : B ≤ w.heap.size) (ht : ListsAt w B A0 ts) (hy : ListsAt w B A ys) (hm : m = ts.length) (hn : n = ys.length)
    (hm0 : m ≤ 1000) (hn0 : n ≤ 1000) (hN : N ≤ 1000) (hs : Signs N ys) (hts : ∀ k, k < ts.length → (ts.getD k []).length = N) :
    Calls Tryz.prog 39 #[.slice A0 m c0, .slice A n c] w fun e w' => ∃ A1 c1, e = .returned (.slice A1 (stTo ts ys m).1.length c1) ∧ ListsAt w' w'.heap.size A1 (stTo ts ys m).1 ∧ Below w.heap.size w w' := by
  have HN := Lib.hid hn; clear hn
  have HM := Lib.hid hm; clear hm
  have HSg := Lib.hid hs; clear hs
  have HTs := Lib.hid hts; clear hts
  obtain ⟨i0, hi0, hz0, hz1, hz2⟩ := info_parts Tryz.infoInt
  have hmk := fun (W : World) => run_make_ints (P := Tryz.prog) 49 3 i0 Tryz.underlying49 hi0 hz0 hz1 hz2 n (by omega) W
  go_enter Tryz.func39, Tryz.ntmps39
  go_wp2
  clear hmk
  go_loopg [7, 8, 9, 21] m (fun gn _ _ _ i wr => ∃ (k : Nat), k ≤ m ∧ gn = m - k ∧ i = .int .i64 k ∧ Blk wr w.heap.size 3 (intArr (cntTo ts ys k)) ∧ Blk wr (w.heap.size + 1) 49 #[.slice (some ⟨w.heap.size, 0, none⟩) n n] ∧ Below w.heap.size w wr)
  case atStart =>
    refine ⟨0, Nat.zero_le _, rfl, rfl, ?_, ?_, ?_⟩
    · have h := (Blk.new w 3 (intArr (List.replicate n 0))).alloc (.cells #[.slice (some ⟨w.heap.size, 0, none⟩) n n] 49)
      rw [HN.out] at h ⊢
      exact h
    · have h := Blk.new (w.alloc (.cells (intArr (List.replicate n 0)) 3)) 49 #[.slice (some ⟨w.heap.size, 0, none⟩) n n]
      simpa using h
    · exact ((Below.refl _ _).alloc (Nat.le_refl _) _).alloc (by simp) _
  case round =>
    obtain ⟨k, hk, hgk, rfl, hb1, hb2, hd⟩ := hrel
    have HG := Lib.hid hgk; clear hgk
    obtain ⟨wo, rfl⟩ : ∃ wo : World, wo = wr := ⟨_, rfl⟩
    by_cases hlt : k < m
    · obtain ⟨p1, o1, Ak, ck, rfl, q1, c1, hsk⟩ := ht.at_ (k := k) (by have := HM.out; omega)
      have hc1 := (hd.cell (p := ⟨p1, o1 + k, none⟩) (by show p1 < _; omega)).trans c1
      have HNX := Lib.hid (show cntTo ts ys (k + 1) = incTo (ts.getD k []) ys (cntTo ts ys k) ys.length from rfl)
      have hcl := cntTo_len ts ys k
      have HCB := Lib.hid (cntTo_bd ts ys k)
      have HTL := Lib.hid (HTs.out k (by have := HM.out; omega))
      have i1 : (k : Int) < m := by omega
      generalize ts.getD k [] = t at *
      generalize cntTo ts ys k = cnt at *
      have HCL := Lib.hid hcl; clear hcl
      go_wp2
      go_loopg [8, 9, 27] n (fun gn _ _ i wr => ∃ (q : Nat), q ≤ n ∧ gn = n - q ∧ i = .int .i64 q ∧ Blk wr w.heap.size 3 (intArr (incTo t ys cnt q)) ∧ Blk wr (w.heap.size + 1) 49 #[.slice (some ⟨w.heap.size, 0, none⟩) n n] ∧ Below w.heap.size w wr)
      case atStart => exact ⟨0, Nat.zero_le _, rfl, rfl, hb1, hb2, hd⟩
      case round =>
        clear hb1 hb2 hd hc1
        obtain ⟨q, hq, hgq, rfl, hb1, hb2, hd⟩ := hrel
        have HGQ := Lib.hid hgq; clear hgq
        have hz := hd.size
        by_cases hlt2 : q < n
        · obtain ⟨p2, o2, A2, c2', rfl, q2, c2, hs2⟩ := (hy.below (hd.mono hB)).at_ (k := q) (by have := HN.out; omega)
          obtain ⟨hyl, hyr⟩ := HSg.out q (by have := HN.out; omega)
          have HYR := Lib.hid hyr; clear hyr
          have hsk2 := hsk.below (hd.mono hB)
          have HTL2 := HTL.out
          have hle : (ys.getD q []).length ≤ t.length := by omega
          have hle2 : t.length ≤ 1000 := by omega
          have HS := Lib.hid (show incTo t ys cnt (q + 1) = if permY t ys q then (incTo t ys cnt q).set q (cAt (incTo t ys cnt q) q + 1) else incTo t ys cnt q from rfl)
          have HPY := Lib.hid (show permY t ys q = permTo t (ys.getD q []) (ys.getD q []).length from rfl)
          have hil := incTo_len t ys cnt q
          have hia := incTo_at t ys cnt q q (by have := HCL.out; have := HN.out; omega)
          have hcb := HCB.out q
          rw [if_neg (by omega)] at hia
          have x1 : 0 ≤ cAt (incTo t ys cnt q) q := by omega
          have x2 : cAt (incTo t ys cnt q) q ≤ 1000 := by omega
          have c3 : wr.cell? ⟨w.heap.size, q, none⟩ = some (.int .i64 (cAt (incTo t ys cnt q) q)) := (hb1.cell q).trans (intArr_at _ _ (by have := HCL.out; have := HN.out; omega))
          have c4 : wr.cell? ⟨w.heap.size + 1, 0, none⟩ = some (.slice (some ⟨w.heap.size, 0, none⟩) n n) := hb2.cell 0
          have f3 := hb1.frozen q
          clear hyl HTL2 hil hia hcb
          generalize ys.getD q [] = y at *
          generalize incTo t ys cnt q = ci at *
          generalize hcx : cAt ci q = cx at *
          have HCX := Lib.hid hcx; clear hcx
          have i2 : (q : Int) < n := by omega
          cases hp : permTo t y y.length
          · have HP := Lib.hid hp
            go_wp2_with (go_at_call 38; refine (permits_any _ _ _ _ _ _ B t y _ hsk2 hs2 hle hle2 HYR.out).mono ?_; rintro e w1 ⟨rfl, hd1⟩)
            go_roundg (n - (q + 1))
            case rel => exact ⟨q + 1, by omega, rfl, by go_num, by rw [HS.out, HPY.out, HP.out]; exact hb1.drawn hd1, hb2.drawn hd1, hd.trans (hd1.below _)⟩
            case measure => have := HGQ.out; omega
          · have HP := Lib.hid hp
            go_wp2_with (go_at_call 38; refine (permits_any _ _ _ _ _ _ B t y _ hsk2 hs2 hle hle2 HYR.out).mono ?_; rintro e w1 ⟨rfl, hd1⟩; refine Hid.out ?_)
            refine Lib.hid ?_
            have hb1' := hb1.drawn hd1
            have hb2' := hb2.drawn hd1
            have hd' := hd.trans (hd1.below w.heap.size)
            have c3' := (hd1.cell ⟨w.heap.size, q, none⟩).trans c3
            have c4' := (hd1.cell ⟨w.heap.size + 1, 0, none⟩).trans c4
            have f3' := hb1'.frozen q
            clear hb1 hb2 hd c3 c4 f3 hd1 hs2 hsk2 c2
            go_wp2
            go_roundg (n - (q + 1))
            case rel =>
              refine ⟨q + 1, by omega, rfl, by go_num, ?_, hb2'.far (by show _ ≠ w.heap.size; omega) _, hd'.setCell (Nat.le_refl _) _⟩
              rw [HS.out, HPY.out, HP.out, if_pos rfl, ← intArr_set]
              exact hb1'.set_ q _
            case measure => have := HGQ.out; omega
        · go_wp2
          go_roundg (m - (k + 1))
          case rel => exact ⟨k + 1, by omega, rfl, by go_num, by rw [HNX.out, ← HN.out, show n = q by omega]; exact hb1, hb2, hd⟩
          case measure => have := HG.out; omega
    · obtain rfl : k = m := by omega
      have HST := Lib.hid (show stTo ts ys 0 = ([], cntTo ts ys ts.length) from rfl)
      have HKM := Lib.hid HM.out
      go_wp2
      go_loopg [10, 12, 13, 15, 45] k (fun gn v _ _ _ i wr => ∃ (j : Nat) (xs : List Value), j ≤ k ∧ gn = k - j ∧ i = .int .i64 j ∧ Blk wr w.heap.size 3 (intArr (stTo ts ys j).2) ∧ Blk wr (w.heap.size + 1) 49 #[.slice (some ⟨w.heap.size, 0, none⟩) n n] ∧
        wr.ownsRow w.heap.size 59 1 v (stTo ts ys j).1.length xs ∧ Slices wr B xs (stTo ts ys j).1 ∧ (∀ u ∈ xs, u.oneCell' = true) ∧ Below w.heap.size w wr)
      case atStart => exact ⟨0, [], Nat.zero_le _, rfl, rfl, by rw [HST.out, ← HM.out]; exact hb1, hb2, World.ownsRow_nil _ _ _ _, Slices.nil _ _, by simp, hd⟩
      case round =>
        clear hb1 hb2 hd
        obtain ⟨j, xs, hj, hgj, rfl, hb1, hb2, hown, hsl, hone, hd⟩ := hrel
        have HGJ := Lib.hid hgj; clear hgj
        have HONE := Lib.hid hone; clear hone
        obtain ⟨wo, rfl⟩ : ∃ wo : World, wo = wr := ⟨_, rfl⟩
        have hz := hd.size
        have hkp := stTo_kept ts ys j
        have hcl := stTo_len ts ys j
        have HCB := Lib.hid (stTo_bd ts ys (by have := HN.out; omega) j)
        have HST := Lib.hid (show stTo ts ys (j + 1) = if anyTo (hitAt (rowsL (ts.getD j []) ys) (stTo ts ys j).2) (rowsL (ts.getD j []) ys).length then ((stTo ts ys j).1 ++ [ts.getD j []], (stTo ts ys j).2) else ((stTo ts ys j).1, decTo (rowsL (ts.getD j []) ys) (stTo ts ys j).2 (rowsL (ts.getD j []) ys).length) from rfl)
        by_cases hlt : j < k
        · obtain ⟨p1, o1, Ak, ck, rfl, q1, c1, hsk⟩ := (ht.below (hd.mono hB)).at_ (k := j) (by have := HM.out; omega)
          have HTL := Lib.hid (HTs.out j (by have := HM.out; omega))
          have i1 : (j : Int) < k := by omega
          generalize ts.getD j [] = t at *
          generalize (stTo ts ys j).1 = kp at *
          generalize (stTo ts ys j).2 = cnt at *
          have HCL := Lib.hid hcl; clear hcl
          have htl : t.length ≤ 1000 := by have := HTL.out; omega
          have HSt : Hid (Signs t.length ys) := by have h := HTL.out; rw [h]; exact HSg.out
          have hyb := hy.below (hd.mono hB)
          have hBz : B ≤ wo.heap.size := by omega
          have HRL := Lib.hid (show rowsTo t ys n = rowsL t ys by rw [HN.out]; rfl)
          have hrl := rowsTo_len t ys n
          have HRI := Lib.hid (show ∀ i ∈ rowsTo t ys n, i < cnt.length by
            intro i hi
            have := List.mem_range.1 (List.mem_filter.1 hi).1
            have h1 := HCL.out
            have h2 := HN.out
            omega)
          rw [← HRL.out] at HST
          generalize hrt : rowsTo t ys n = is at *
          have HRT := Lib.hid hrt; clear hrt
          have hrow := rowsOf_any Ak A t.length n ck c B t ys wo hBz hsk hyb HN.out hn0 htl HSt.out
          rw [HRT.out] at hrow
          have HROW := Lib.hid hrow; clear hrow
          go_wp2_with (go_at_call 60; refine (HROW.out).mono ?_; rintro e w1 ⟨A1, c1', rfl, hown1, hbw1⟩; refine Hid.out ?_)
          refine Lib.hid ?_
          have hb1' := hb1.old hbw1
          have hb2' := hb2.old hbw1
          have hcounts : Counts w1 (w.heap.size + 1) w.heap.size n cnt := ⟨by have h := hb2'.cell 0; rw [h]; have h1 := HCL.out; have h2 := HN.out; rw [h1, ← h2]; rfl, fun q hq => (hb1'.cell q).trans (intArr_at _ _ hq)⟩
          have hdw1 := hd.trans (hbw1.mono hz)
          have hown' : w1.ownsRow w.heap.size 59 1 u10 kp.length xs := hown.kept (row := none) ⟨hbw1.os, hbw1.tape, hbw1.output, hbw1.size, fun q hq _ => hbw1.block q hq⟩ (by cases h : u10.ownBlock <;> simp)
          have hsl' := hsl.below (hbw1.mono hBz)
          have hrd1 := Reads.of_own hown1
          have hsk1 := hsk.below (hbw1.mono hBz)
          have hyb1 := hyb.below (hbw1.mono hBz)
          have hz1' := hdw1.size
          clear hown1 hb1 hb2 hd hown hsl hbw1 c1 hyb HROW hsk
          have hil : is.length ≤ 1000 := by omega
          cases hhit : anyTo (hitAt is cnt) is.length
          · have HH := Lib.hid hhit
            go_wp2_with (go_at_call 59; refine (cont_any A1 is.length c1' _ _ _ _ is cnt _ hrd1 hcounts HRI.out hil).mono ?_; rintro e w2 ⟨rfl, rfl⟩; refine Hid.out ?_)
            refine Lib.hid ?_
            have hrow := rowsOf_any Ak A t.length n ck c B t ys w1 (by omega) hsk1 hyb1 HN.out hn0 htl HSt.out
            rw [HRT.out] at hrow
            have HROW := Lib.hid hrow; clear hrow
            clear hrd1 hcounts
            go_wp2_with (go_at_call 60; refine (HROW.out).mono ?_; rintro e w2 ⟨A2, c2', rfl, hown2, hbw2⟩; refine Hid.out ?_)
            refine Lib.hid ?_
            have hb1 := hb1'.old hbw2
            have hb2 := hb2'.old hbw2
            have hd2 := hdw1.trans (hbw2.mono hz1')
            have hown : w2.ownsRow w.heap.size 59 1 u10 kp.length xs := hown'.kept (row := none) ⟨hbw2.os, hbw2.tape, hbw2.output, hbw2.size, fun q hq _ => hbw2.block q hq⟩ (by cases h : u10.ownBlock <;> simp)
            have hsl := hsl'.below (hbw2.mono (by omega))
            have hg1 : w.heap.size + 1 < w1.heap.size := hb2'.lt
            clear hb1' hb2' hdw1 hown' hsl' hsk1 hyb1 HROW hbw2
            go_wp2
            go_loopg [15, 63] is.length (fun gn _ i wr => ∃ (q : Nat), q ≤ is.length ∧ gn = is.length - q ∧ i = .int .i64 q ∧ Blk wr w.heap.size 3 (intArr (decTo is cnt q)) ∧ Blk wr (w.heap.size + 1) 49 #[.slice (some ⟨w.heap.size, 0, none⟩) n n] ∧
              wr.ownsRow w.heap.size 59 1 u10 kp.length xs ∧ Slices wr B xs kp ∧ wr.ownsRow w1.heap.size 3 1 (.slice A2 is.length c2') is.length (natCells is) ∧ Below w.heap.size w wr)
            case atStart => exact ⟨0, Nat.zero_le _, rfl, rfl, hb1, hb2, hown, hsl, hown2, hd2⟩
            case round =>
              clear hb1 hb2 hown hsl hown2 hd2
              obtain ⟨q, hq, hgq, rfl, hb1, hb2, hown, hsl, hown2, hd2⟩ := hrel
              have HGQ := Lib.hid hgq; clear hgq
              have hz2 := hd2.size
              by_cases hlt2 : q < is.length
              · obtain ⟨p2, o2, rfl, q2, c3⟩ := nats_at (Reads.of_own hown2) hlt2
                have hrq := HRI.out (is.getD q 0) (by simp [List.getElem?_eq_getElem hlt2])
                have hdl := decTo_len is cnt q
                have HS := Lib.hid (show decTo is cnt (q + 1) = (decTo is cnt q).set (is.getD q 0) (cAt (decTo is cnt q) (is.getD q 0) - 1) from rfl)
                have hdb := decTo_bd is cnt q (is.getD q 0)
                have hcb := HCB.out (is.getD q 0)
                have hkm := HKM.out
                generalize is.getD q 0 = iq at *
                generalize decTo is cnt q = dq at *
                have c4 : wr.cell? ⟨w.heap.size, iq, none⟩ = some (.int .i64 (cAt dq iq)) := (hb1.cell iq).trans (intArr_at _ _ (by omega))
                have c5 : wr.cell? ⟨w.heap.size + 1, 0, none⟩ = some (.slice (some ⟨w.heap.size, 0, none⟩) n n) := hb2.cell 0
                have f4 := hb1.frozen iq
                have x1 : -1000000000 ≤ cAt dq iq := by omega
                have x2 : cAt dq iq ≤ 1000000000 := by omega
                have hin : (iq : Int) < n := by have h1 := HCL.out; have h2 := HN.out; omega
                generalize cAt dq iq = cx at *
                clear hdb hcb hkm hdl
                go_wp2
                go_roundg (is.length - (q + 1))
                case rel =>
                  refine ⟨q + 1, by omega, rfl, by go_num, ?_, hb2.far (by show _ ≠ w.heap.size; omega) _, ?_, ?_, ownsRow_setCell_below hown2 (by show w.heap.size < _; omega) _, hd2.setCell (Nat.le_refl _) _⟩
                  · rw [HS.out, ← intArr_set]
                    exact hb1.set_ iq _
                  · exact hown.kept (row := some w.heap.size) ⟨rfl, rfl, rfl, by simp [World.setCell], fun r _ hr => Below.heap_setCell _ _ _ _ (fun e => hr (by rw [e]))⟩ (.inr (fun e => own_blk_ne hown hb1 (by decide) e.symm))
                  · exact hsl.keep fun p hp => World.cell?_setCell_other _ _ _ _ (by rintro rfl; simp at hp; omega)
                case measure => have := HGQ.out; omega
              · obtain rfl : q = is.length := by omega
                go_wp2
                go_roundg (k - (j + 1))
                case rel =>
                  have e : stTo ts ys (j + 1) = (kp, decTo is cnt is.length) := by rw [HST.out, HH.out]; rfl
                  refine ⟨j + 1, xs, by omega, rfl, by go_num, ?_, hb2, ?_, ?_, HONE.out, hd2⟩
                  · rw [e]; exact hb1
                  · rw [e]; exact hown
                  · rw [e]; exact hsl
                case measure => have := HGJ.out; omega
          · have HH := Lib.hid hhit
            go_wp2_with (go_at_call 59; refine (cont_any A1 is.length c1' _ _ _ _ is cnt _ hrd1 hcounts HRI.out hil).mono ?_; rintro e w2 ⟨rfl, rfl⟩; refine Hid.out ?_)
            refine Lib.hid ?_
            clear hrd1 hcounts
            have hownA := hown'.alloc (.cells #[.slice Ak t.length ck] 59)
            have h63 : kp.length + 1 ≤ maxLen := by unfold maxLen; omega
            have hby : (kp.length + 1) * 24 ≤ 140737488355328 := by omega
            have hbase : w.heap.size ≤ (w1.alloc (.cells #[.slice Ak t.length ck] 59)).heap.size := by simp; omega
            obtain ⟨i9, hi9, hy0, hy1, hy2⟩ := info_parts Tryz.infoSolT
            go_wp2_with (at_builtin; refine wpList_append_any _ rfl (.tmp 55) (.tmp 57) _ rfl w.heap.size 59 i9 _ 1 24 Tryz.underlying42 hi9 hy0 hy1 hy2 rfl (Nat.le_refl _) u10 _ _ rfl hownA _ _ 1 1 _ rfl (Reads.one_new w1 (.slice Ak t.length ck) 59) (by intro u hu; simp at hu; subst hu; rfl) h63 hby hbase ?_; intro v3 w3 hown3 hg3 hat3)
            go_roundg (k - (j + 1))
            case rel =>
              have e : stTo ts ys (j + 1) = (kp ++ [t], cnt) := by rw [HST.out, HH.out]; rfl
              have hne1 := own_blk_ne hownA (hb1'.alloc _) (by decide)
              have hne2 := own_blk_ne hownA (hb2'.alloc _) (by decide)
              have hdA := hdw1.alloc hz1' (.cells #[.slice Ak t.length ck] 59)
              have hd3 : Below w.heap.size w w3 := hdA.grown hg3 (by simp; omega) (fun q hq => (hownA.lt q hq).1)
              refine ⟨j + 1, xs ++ [.slice Ak t.length ck], by omega, rfl, by go_num, ?_, (hb2'.alloc _).grown hg3 hne2, ?_, ?_, ?_, hd3⟩
              · rw [e]; exact (hb1'.alloc _).grown hg3 hne1
              · rw [e]; simpa using hown3
              · rw [e]
                have hk3 : ∀ p : Addr, p.block < B → w3.cell? p = w1.cell? p := fun p hp => by
                  have h1 := hd3.cell (p := p) (by omega)
                  have h2 := hdw1.cell (p := p) (by omega)
                  rw [h1, h2]
                exact (hsl'.keep hk3).snoc (hsk1.keep hk3)
              · intro u hu
                rcases List.mem_append.1 hu with h | h
                · exact HONE.out u h
                · simp at h; subst h; rfl
            case measure => have := HGJ.out; omega
        · obtain ⟨A1, cap, hv⟩ := own_slice hown
          subst hv
          go_wp2
          go_ret
          exact ⟨A1, cap, by rw [show k = j by omega]; rfl, by rw [show k = j by omega]; exact ListsAt.of_own hown hsl (by omega), hd⟩
end Go.Proofs.YtkkliemgidhgmaaGreatDoor

/- Contract of the closure in solution.widen. -/
namespace Go.Proofs.YtkkliemgidhgmaaGreatDoor
open Go.RowKit

theorem Reads.at_c {w : World} {B n k : Nat} {A : Option Addr} {l : List Int} (h : Reads w B 1 A n (l.map (Value.int .i64))) (hk : k < n) :
    ∃ b o, A = some ⟨b, o, none⟩ ∧ b < B ∧ w.cell? ⟨b, o + k, none⟩ = some (.int .i64 (cAt l k)) := h.int_at hk

def freeAt (no : List (List Int)) (bl : List Int) (i : Nat) (s : Int) (k : Nat) : Bool := !((cAt (no.getD k []) i == s) && (cAt bl k == 1))
def freeB (no : List (List Int)) (bl : List Int) (i : Nat) (s : Int) : Bool := allTo (freeAt no bl i s) no.length

set_option maxHeartbeats 1000000 in
theorem free_any (A : Option Addr) (n c cap B pn pb g N i : Nat) (s : Int) (no : List (List Int)) (bl : List Int) (w : World) (hno : ListsAt w B A no) (hn : n = no.length) (cn : w.cell? ⟨pn, 0, none⟩ = some (.slice A n c))
    (cb : w.cell? ⟨pb, 0, none⟩ = some (.slice (some ⟨g, 0, none⟩) n cap)) (hb : ∀ j, j < n → w.cell? ⟨g, j, none⟩ = some (.int .i64 (cAt bl j))) (hN : ∀ k, k < no.length → (no.getD k []).length = N) (hi : i < N) (hN0 : N ≤ 1000) (hn0 : n ≤ 1000) :
    Calls Tryz.prog 58 #[.int .i64 (i : Int), .int .i64 s, .pointer (some ⟨pn, 0, none⟩), .pointer (some ⟨pb, 0, none⟩)] w fun e w' => e = .returned (.bool (freeB no bl i s)) ∧ w = w' := by
  have HN := Lib.hid hn; clear hn
  have HB := Lib.hid hb; clear hb
  have HNN := Lib.hid hN; clear hN
  go_enter Tryz.func58, Tryz.ntmps58
  go_wp2
  go_loop [7, 8, 11] (fun _ _ x => ∃ (k : Nat), k ≤ n ∧ x = .int .i64 k ∧ allTo (freeAt no bl i s) k = true) (fun _ _ x => n - (intOf x).toNat)
  case atStart => exact ⟨0, Nat.zero_le _, rfl, rfl⟩
  case round =>
    obtain ⟨k, hk, rfl, hp⟩ := hrel
    have HP := Lib.hid hp; clear hp
    by_cases hlt : k < n
    · obtain ⟨b1, o1, Ak, ck, rfl, q1, c1, hs⟩ := hno.at_ (k := k) (by have := HN.out; omega)
      have hl := HNN.out k (by have := HN.out; omega)
      have HS := Lib.hid (allTo_succ (freeAt no bl i s) k)
      have HF := Lib.hid (fun h : freeAt no bl i s k = false => show freeB no bl i s = false from allTo_false h (by have := HN.out; omega))
      have HG := Lib.hid (show freeAt no bl i s k = !((cAt (no.getD k []) i == s) && (cAt bl k == 1)) from rfl)
      generalize no.getD k [] = l at *
      have hil : i < l.length := by omega
      have hl1000 : l.length ≤ 1000 := by omega
      clear hl
      obtain ⟨b2, o2, rfl, q2, c2⟩ := hs.at_c hil
      have c3 := HB.out k hlt
      have i1 : (k : Int) < n := by omega
      have i2 : (i : Int) < l.length := by omega
      generalize cAt l i = y at *
      generalize cAt bl k = z at *
      by_cases h1 : (y == s) = true
      · by_cases h2 : (z == 1) = true
        · go_wp2
          go_ret
          exact ⟨ret_bool (HF.out (by rw [HG.out, h1, h2]; rfl)).symm, rfl⟩
        · have h2' : (z == 1) = false := by simpa using h2
          clear h2
          go_wp2
          go_round
          case rel => exact ⟨k + 1, by omega, by go_num, by rw [HS.out, HP.out, HG.out, h1, h2']; rfl⟩
          case measure => simp [intOf]; omega
      · have h1' : (y == s) = false := by simpa using h1
        clear h1
        go_wp2
        go_round
        case rel => exact ⟨k + 1, by omega, by go_num, by rw [HS.out, HP.out, HG.out, h1']; rfl⟩
        case measure => simp [intOf]; omega
    · go_wp2
      go_ret
      refine ⟨ret_bool ?_, rfl⟩
      have := HP.out
      rw [show k = n by omega, HN.out] at this
      exact this.symm
end Go.Proofs.YtkkliemgidhgmaaGreatDoor
