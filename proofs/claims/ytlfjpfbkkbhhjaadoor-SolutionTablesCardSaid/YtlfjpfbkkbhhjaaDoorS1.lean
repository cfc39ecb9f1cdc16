/- Contract of solution.rowsOf, for at most 1000 rows of valid signs. -/
import Derived.Test.YtlfjpfbkkbhhjaaDoorK2
namespace Go.Proofs.YtlfjpfbkkbhhjaaDoor
open Go.RowKit

/-- the lists of signs: of one length, each sign -1, 0 or 1 -/
def Signs (N : Nat) (ys : List (List Int)) : Prop := ∀ k, k < ys.length → (ys.getD k []).length = N ∧ ∀ x ∈ ys.getD k [], -1 ≤ x ∧ x ≤ 1
def permY (t : List Int) (ys : List (List Int)) (k : Nat) : Bool := permTo t (ys.getD k []) (ys.getD k []).length
def rowsTo (t : List Int) (ys : List (List Int)) (k : Nat) : List Nat := (List.range k).filter (permY t ys)
theorem rowsTo_succ (t : List Int) (ys : List (List Int)) (k : Nat) : rowsTo t ys (k + 1) = rowsTo t ys k ++ (if permY t ys k then [k] else []) := by
  simp only [rowsTo, List.range_succ, List.filter_append]
  congr 1
  cases h : permY t ys k <;> simp [h]
theorem rowsTo_len (t : List Int) (ys : List (List Int)) (k : Nat) : (rowsTo t ys k).length ≤ k := by
  have := List.length_filter_le (permY t ys) (List.range k)
  simpa [rowsTo] using this
def ofNats (l : List Nat) : List Int := l.map (fun (i : Nat) => (i : Int))
def natCells (l : List Nat) : List Value := (ofNats l).map (Value.int .i64)

set_option maxHeartbeats 1000000 in
theorem rowsOf_any (A0 A : Option Addr) (m n c0 c B : Nat) (t : List Int) (ys : List (List Int)) (w : World) (hB : B ≤ w.heap.size) (ht : Reads w B 1 A0 m (t.map (Value.int .i64))) (hy : ListsAt w B A ys) (hn : n = ys.length)
    (hn0 : n ≤ 1000) (hm0 : m ≤ 1000) (hs : Signs m ys) :
    Calls Tryd.prog 30 #[.slice A0 m c0, .slice A n c] w fun e w' => ∃ A1 c1, e = .returned (.slice A1 (rowsTo t ys n).length c1) ∧ w'.ownsRow w.heap.size 3 1 (.slice A1 (rowsTo t ys n).length c1) (rowsTo t ys n).length (natCells (rowsTo t ys n)) ∧ Below w.heap.size w w' := by
  have HN := Lib.hid hn; clear hn
  have HSg := Lib.hid hs; clear hs
  obtain ⟨i0, hi0, hz0, hz1, hz2⟩ := info_parts Tryd.infoInt
  go_enter Tryd.func30, Tryd.ntmps30
  go_wp2
  go_loopg [5, 6, 7, 10] n (fun gn v _ _ i wr => ∃ (k : Nat), k ≤ n ∧ gn = n - k ∧ i = .int .i64 k ∧ wr.ownsRow w.heap.size 3 1 v (rowsTo t ys k).length (natCells (rowsTo t ys k)) ∧ Below w.heap.size w wr)
  case atStart => exact ⟨0, Nat.zero_le _, rfl, rfl, World.ownsRow_nil _ _ _ _, .refl _ _⟩
  case round =>
    obtain ⟨k, hk, hgk, rfl, hown, hd⟩ := hrel
    have HG := Lib.hid hgk; clear hgk
    have hz := hd.size
    have hrl := rowsTo_len t ys k
    by_cases hlt : k < n
    · obtain ⟨b1, o1, Ak, ck, rfl, q1, c1, hsk⟩ := (hy.below (hd.mono hB)).at_ (k := k) (by have := HN.out; omega)
      obtain ⟨hyl, hyr⟩ := HSg.out k (by have := HN.out; omega)
      have HYR := Lib.hid hyr; clear hyr
      have ht1 := ht.below (hd.mono hB)
      have HS := Lib.hid (rowsTo_succ t ys k)
      have HPY := Lib.hid (show permY t ys k = permTo t (ys.getD k []) (ys.getD k []).length from rfl)
      have hle : (ys.getD k []).length ≤ m := by omega
      clear hyl
      generalize ys.getD k [] = y at *
      generalize rowsTo t ys k = rk at *
      cases hp : permTo t y y.length
      · have HP := Lib.hid hp
        go_wp2_with (go_at_call 21; refine (permits_any _ _ _ _ _ _ B t y _ ht1 hsk hle hm0 HYR.out).mono ?_; rintro e w1 ⟨rfl, hd1⟩)
        go_roundg (n - (k + 1))
        case rel =>
          have e1 : rowsTo t ys (k + 1) = rk := by rw [HS.out, HPY.out, HP.out]; simp
          obtain ⟨q, rfl⟩ := hd1
          exact ⟨k + 1, by omega, rfl, by go_num, by rw [e1]; exact hown, hd.trans ((Drawn.drewN _ _).below _)⟩
        case measure => have := HG.out; omega
      · have HP := Lib.hid hp
        go_wp2_with (go_at_call 21; refine (permits_any _ _ _ _ _ _ B t y _ ht1 hsk hle hm0 HYR.out).mono ?_; rintro e w1 ⟨rfl, hd1⟩; refine Hid.out ?_)
        refine Lib.hid ?_
        have hown1 : w1.ownsRow w.heap.size 3 1 u5 rk.length (natCells rk) := by obtain ⟨q, rfl⟩ := hd1; exact hown
        have hd2 : Below w.heap.size w w1 := hd.trans (hd1.below _)
        have hz1' := hd2.size
        clear hown hd hd1 c1
        have hown2 := hown1.alloc (.cells #[.int .i64 (k : Int)] 3)
        have h63 : rk.length + 1 ≤ maxLen := by unfold maxLen; omega
        have hby : (rk.length + 1) * 8 ≤ 140737488355328 := by omega
        have hbase : w.heap.size ≤ (w1.alloc (.cells #[.int .i64 (k : Int)] 3)).heap.size := by simp; omega
        go_wp2_with (at_builtin; refine wpList_append_any _ rfl (.tmp 18) (.tmp 20) _ rfl w.heap.size 3 i0 _ 1 8 Tryd.underlying34 hi0 hz0 hz1 hz2 rfl (Nat.le_refl _) u5 _ _ rfl hown2 _ _ 1 1 _ rfl (Reads.one_new w1 (.int .i64 (k : Int)) 3) (by intro u hu; simp at hu; subst hu; rfl) h63 hby hbase ?_; intro v3 w3 hown3 hg3 hat3)
        go_roundg (n - (k + 1))
        case rel =>
          have e1 : rowsTo t ys (k + 1) = rk ++ [k] := by rw [HS.out, HPY.out, HP.out]; simp
          refine ⟨k + 1, by omega, rfl, by go_num, ?_, (hd2.alloc hz1' _).grown hg3 (by simp; omega) (fun q hq => (hown2.lt q hq).1)⟩
          rw [e1]
          simpa [natCells, ofNats] using hown3
        case measure => have := HG.out; omega
    · go_wp2
      obtain ⟨A1, cap, hv⟩ := own_slice hown
      subst hv
      go_ret
      exact ⟨A1, cap, by rw [show n = k by omega]; rfl, by rw [show n = k by omega]; exact hown, hd⟩
end Go.Proofs.YtlfjpfbkkbhhjaaDoor
