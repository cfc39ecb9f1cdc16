/- Contract of solution.key, for at most 6 signs, whatever integers they are; the library's table of powers of ten lies in memory. -/
import Derived.Test.YtlfjpfbkkbhhjaaDoorW8
import Derived.Test.YtlfjpfbkkbhhjaaDoorShelf
import Derived.Lib.ItoaLen
import Derived.Lib.Slices
import Derived.Laws.IdiomStrings
import Derived.BigCall
namespace Go.Proofs.YtlfjpfbkkbhhjaaDoor
open Go.RowKit Go.Shelf

theorem Tryd.infoByte : (Tryd.prog.info? 5).map (fun i => (i.zero, i.size, i.bytes)) = some (some (.int .u8 0), 1, 1) := by kernel_rfl
/-- what the key of a list of signs is -/
def keyOf (l : List Int) : List UInt8 := l.flatMap fun x => Lib.itoa x ++ [44]
theorem keyOf_snoc (l : List Int) (k : Nat) (h : k < l.length) : keyOf (l.take (k + 1)) = keyOf (l.take k) ++ Lib.itoa (l.getD k 0) ++ [44] := by
  have e : l.getD k 0 = l[k] := by simp [List.getElem?_eq_getElem h]
  unfold keyOf
  rw [List.take_succ_eq_append_getElem h, List.flatMap_append, e, List.append_assoc]
  simp only [List.flatMap_cons, List.flatMap_nil, List.append_nil]
def In64 (x : Int) : Prop := -9223372036854775808 ≤ x ∧ x ≤ 9223372036854775807
def TabOk (w : World) : Prop := Lib.TabIs Tryd.prog w "internal/strconv.uint64pow10" .u64 Lib.pow10Tab
theorem TabOk.on {w w' : World} (h : TabOk w) (hb : Below w.heap.size w w') : TabOk w' := (Lib.tabBelow_of_tabIs h) w' hb
theorem keyOf_len (l : List Int) (h : ∀ x ∈ l, In64 x) : (keyOf l).length ≤ 22 * l.length := by
  induction l with
  | nil => simp [keyOf]
  | cons x l ih =>
    have h1 := Lib.itoa_length_le x (h x (by simp)).1 (h x (by simp)).2
    have h2 := ih (fun y hy => h y (by simp [hy]))
    simp only [keyOf, List.flatMap_cons, List.length_append, List.length_cons, List.length_nil] at *
    omega

set_option maxHeartbeats 1000000 in
set_option maxRecDepth 100000 in
theorem key_any (A : Option Addr) (n c B : Nat) (l : List Int) (w : World) (hB : B ≤ w.heap.size) (hr : Reads w B 1 A n (l.map (Value.int .i64))) (hn : n ≤ 6) (hl : ∀ x ∈ l, In64 x) (htab : TabOk w) :
    Calls Tryd.prog 25 #[.slice A n c] w fun e w' => e = .returned (.string ⟨(keyOf l).toArray⟩) ∧ Below w.heap.size w w' := by
  obtain ⟨i0, hi0, hz0, hz1, hz2⟩ := info_parts Tryd.infoByte
  have HT := Lib.hid (Lib.tabBelow_of_tabIs htab)
  have HL := Lib.hid hl; clear hl
  have HN := Lib.hid hr.len
  go_enter Tryd.func25, Tryd.ntmps25
  have hb2 : i0.bytes * (3 * n) ≤ 281474976710656 := by rw [hz2]; omega
  have hb3 : 3 * n ≤ maxLen := by unfold maxLen; omega
  have hC : (3 : Int) * (n : Int) = ((3 * n : Nat) : Int) := by omega
  have HC := Lib.hid hC; clear hC
  go_wp2_with (at_make; refine wpList_make_own _ rfl _ _ 57 rfl w.heap.size 5 i0 (.int .u8 0) 1 Tryd.underlying57 hi0 hz0 hz1 _ _ _ (3 * n) rfl rfl HC.out hb2 hb3 (Nat.le_refl _) ?_; intro w1 hown1 hg1; refine Hid.out ?_)
  refine Lib.hid ?_
  have hd1 : Below w.heap.size w w1 := (Below.refl _ _).grown hg1 (Nat.le_refl _) (by simp)
  clear hg1 hb2 hb3
  go_wp2
  go_loopg [3, 5, 12] n (fun gn v _ i wr => ∃ (k : Nat), k ≤ n ∧ gn = n - k ∧ i = .int .i64 k ∧ (∃ g cap, v = .slice (some ⟨g, 0, none⟩) (keyOf (l.take k)).length cap) ∧ wr.ownsRow w.heap.size 5 1 v (keyOf (l.take k)).length (Lib.byteCells (keyOf (l.take k))) ∧ Below w.heap.size w wr)
  case atStart => exact ⟨0, Nat.zero_le _, rfl, rfl, ⟨_, _, rfl⟩, hown1, hd1⟩
  case round =>
    clear hown1 hd1
    obtain ⟨k, hk, hgk, rfl, ⟨g, cap, rfl⟩, hown, hd⟩ := hrel
    have HG := Lib.hid hgk; clear hgk
    have hz := hd.size
    have hlen := keyOf_len (l.take k) (fun x hx => HL.out x (List.mem_of_mem_take hx))
    have hlk : (l.take k).length ≤ k := List.length_take_le _ _
    by_cases hlt : k < n
    · obtain ⟨b1, o1, rfl, q1, c1⟩ := (hr.below (hd.mono hB)).int_at (k := k) hlt
      have HS := Lib.hid (keyOf_snoc l k (by have := HN.out; omega))
      obtain ⟨x0, x1⟩ := HL.out (l.getD k 0) (getD_mem (by have := HN.out; omega))
      have hil := Lib.itoa_length_le (l.getD k 0) x0 x1
      generalize l.getD k 0 = x at *
      generalize keyOf (l.take k) = kb at *
      have hlim : kb.length + 21 ≤ 140737488355328 := by omega
      go_wp2_with (go_at_call 33; refine (Tryd.strconv_AppendInt_10 w.heap.size kb.length x x0 x1 _ _ wr hown hz hlim (HT.out.on hd)).mono ?_; rintro e w2 ⟨v2, rfl, hown2, hnx2, -⟩; refine Hid.out ?_)
      refine Lib.hid ?_
      have hd2 : Below w.heap.size w w2 := hd.trans hnx2
      clear hown hnx2 hd c1
      rw [← Lib.byteCells_append] at hown2
      have hz2' := hd2.size
      have h63 : kb.length + (Lib.itoa x).length + 1 ≤ maxLen := by unfold maxLen; omega
      have hby : (kb.length + (Lib.itoa x).length + 1) * 1 ≤ 140737488355328 := by omega
      have hbase : w.heap.size ≤ (w2.alloc (.cells #[.int .u8 44] 5)).heap.size := by simp; omega
      have hown2' := hown2.alloc (.cells #[.int .u8 44] 5)
      go_wp2_with (at_builtin; refine wpList_append_any _ rfl (.tmp 19) (.tmp 20) _ rfl w.heap.size 5 i0 _ 1 1 Tryd.underlying57 hi0 hz0 hz1 hz2 rfl (Nat.le_refl _) v2 _ _ rfl hown2' _ _ 1 1 _ rfl (Reads.one_new w2 (.int .u8 44) 5) (by intro u hu; simp at hu; subst hu; rfl) h63 hby hbase ?_; intro v3 w3 hown3 hg3 hat3; refine Hid.out ?_)
      refine Lib.hid ?_
      have hd3 : Below w.heap.size w w3 := (hd2.alloc hz2' _).grown hg3 (by simp; omega) (fun k hk => (hown2'.lt k hk).1)
      obtain ⟨g3, cap3, hv3, _, _, _⟩ := own_form hown3 (by omega)
      subst hv3
      clear hown2 hown2' hd2 hg3 hat3
      go_wp2
      go_roundg (n - (k + 1))
      case rel =>
        have e1 : kb.length + (Lib.itoa x).length + 1 = (keyOf (l.take (k + 1))).length := by rw [HS.out]; simp; omega
        have e2 : Lib.byteCells (kb ++ Lib.itoa x) ++ [Value.int .u8 44] = Lib.byteCells (keyOf (l.take (k + 1))) := by rw [HS.out]; simp [Lib.byteCells]
        rw [e1, e2] at hown3
        exact ⟨k + 1, by omega, rfl, by go_num, ⟨g3, cap3, by rw [e1]⟩, by rw [e1]; exact hown3, hd3⟩
      case measure => have := HG.out; omega
    · have HK := Lib.hid (show l.take k = l by rw [List.take_of_length_le]; have := HN.out; omega)
      generalize hkb : keyOf (l.take k) = kb at *
      have HKB := Lib.hid (show keyOf l = kb by rw [← hkb, HK.out])
      clear hkb
      have hcv := run_convert_bytes_back (P := Tryd.prog) wr 57 9 5 ⟨g, 0, none⟩ cap kb Tryd.underlying57 Tryd.underlying5 Tryd.underlying9 (fun j hj => hown.cells (g := g) rfl j _ (by simp [Lib.byteCells, hj]))
      go_wp2
      go_ret
      exact ⟨by rw [HKB.out]; rfl, hd⟩
end Go.Proofs.YtlfjpfbkkbhhjaaDoor
