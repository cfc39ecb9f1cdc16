/- A map from strings to bools that the call itself made, seen as a function. -/
import Derived.Maps.Own
import Derived.Maps.OwnOps
import Derived.Maps.OwnSet
import Derived.Test.YtkkliemgidhgmaaGreatDoorShelf
import Derived.Lib.ItoaLen
import Derived.Lib.Slices
import Derived.Laws.IdiomStrings
import Derived.BigCall
import Derived.Test.YtkkliemgidhgmaaGreatDoorZN
import Derived.Test.YtkkliemgidhgmaaGreatDoorQX
namespace Go.Proofs.YtkkliemgidhgmaaGreatDoor
open Go.RowKit Go.Maps

def BMap (P : Program) (ks eb : TypeId) (w : World) (b n : Nat) (f : List UInt8 → Option Bool) : Prop :=
  ∃ D : DataW Unit, w.ownsMap P ks (plainElem P eb) b n D ∧ IsMap D ∧ ∀ s, Maps.has D (.string s) = (f s).isSome ∧ D.atKey (.string s) (.lit (.bool false)) = .lit (.bool ((f s).getD false))

section
variable {P : Program} {ks eb : TypeId} {w w' : World} {b n : Nat} {f : List UInt8 → Option Bool}
theorem BMap_made (P : Program) (ks eb : TypeId) (w : World) : BMap P ks eb (w.alloc (.map #[] 0)) w.heap.size 0 (fun _ => none) :=
  ⟨.map [], World.ownsMap_made w P ks _, isMap_empty, fun _ => ⟨rfl, rfl⟩⟩
theorem BMap.kept {row : Option Nat} (h : BMap P ks eb w b n f) (hg : w.grownBy w' row) (hne : some b ≠ row) : BMap P ks eb w' b n f := by
  obtain ⟨D, h1, h2, h3⟩ := h
  exact ⟨D, h1.kept hg hne, h2, h3⟩
theorem BMap.old (h : BMap P ks eb w b n f) (hb : Below w.heap.size w w') : BMap P ks eb w' b n f :=
  h.kept (row := none) ⟨hb.os, hb.tape, hb.output, hb.size, fun k hk _ => hb.block k hk⟩ (by simp)
theorem BMap.alloc (h : BMap P ks eb w b n f) (o : Obj) : BMap P ks eb (w.alloc o) b n f := h.kept (World.grownBy_alloc w o none) (by simp)
theorem BMap.mono {n' : Nat} (h : BMap P ks eb w b n f) (hn : n ≤ n') : BMap P ks eb w b n' f := by obtain ⟨D, h1, h2, h3⟩ := h; exact ⟨D, h1.mono hn, h2, h3⟩
theorem BMap.lt (h : BMap P ks eb w b n f) : b < w.heap.size := by obtain ⟨D, h1, _⟩ := h; exact h1.lt
theorem plainElem_bool_inv {H : Type} {e : TypeId} (he : P.underlying e = some .bool) {v : Value} {z : DataW H × List MemPlace} (h : plainElem P e v = some z) : ∃ x, v = .bool x ∧ z = (.lit (.bool x), []) := by
  unfold plainElem at h
  rw [he] at h
  cases v <;> simp at h
  exact ⟨_, rfl, h.symm⟩
theorem key_str (hk : P.underlying ks = some .string) (s : List UInt8) (hs : s.length ≤ maxLen) : keyOf P ks (.string ⟨s.toArray⟩) = some (.string s) := by
  have := WideMaps.keyOf_string_mk (P := P) (k := ks) hk (s := ⟨s.toArray⟩) (by simpa [ByteArray.size] using hs)
  simpa using this
end

section
variable {P : Program} {ks eb : TypeId} (w : World) {ops : Array Oper} {rest : List Oper} {o : Oper} {a : Act} {Q : Exit → Act → World → Prop}
theorem wpList_blookup_ok (hg : o.guard = none) (m x : Operand) (t : TypeId) (hop : o.op = Op.lookup t m x true) (ht : P.underlying t = some (.map ks eb)) (hks : P.underlying ks = some .string) (heb : P.underlying eb = some .bool)
    (hz : (zeroValue eb).run P w = .ok (.bool false) w) (b n : Nat) (f : List UInt8 → Option Bool) (hm : a.eval m = .map (some b)) (hown : BMap P ks eb w b n f) (s : List UInt8) (hs : s.length ≤ maxLen) (hx : a.eval x = .string ⟨s.toArray⟩)
    (hK : wpList P ops Q rest (a.put o.dst (.tuple #[.bool ((f s).getD false), .bool (f s).isSome])) w) : wpList P ops Q (o :: rest) a w := by
  obtain ⟨D, h1, h2, h3⟩ := hown
  refine wpList_lookup_own_ok w hg m x t hop ks eb (string_keyed hks) ht (plainElem P eb) hz (.lit (.bool false)) [] (plainElem_bool heb false) b n D hm h1 _ (.string s) hx (key_str hks s hs) fun v ps hv => ?_
  obtain ⟨y, rfl, hy⟩ := plainElem_bool_inv heb hv
  obtain ⟨e1, e2⟩ := h3 s
  rw [e2] at hy
  injection hy with hy _
  injection hy with hy
  injection hy with hy
  rw [e1, ← hy]
  exact hK
theorem wpList_blookup (hg : o.guard = none) (m x : Operand) (t : TypeId) (hop : o.op = Op.lookup t m x false) (ht : P.underlying t = some (.map ks eb)) (hks : P.underlying ks = some .string) (heb : P.underlying eb = some .bool)
    (hz : (zeroValue eb).run P w = .ok (.bool false) w) (b n : Nat) (f : List UInt8 → Option Bool) (hm : a.eval m = .map (some b)) (hown : BMap P ks eb w b n f) (s : List UInt8) (hs : s.length ≤ maxLen) (hx : a.eval x = .string ⟨s.toArray⟩) (r : Bool) (hr : (f s).getD false = r)
    (hK : wpList P ops Q rest (a.put o.dst (.bool r)) w) : wpList P ops Q (o :: rest) a w := by
  obtain ⟨D, h1, h2, h3⟩ := hown
  refine wpList_plain hg fun K' hK' => ?_
  obtain ⟨v, ps, hrun, hv⟩ := h1.lookup (string_keyed hks) ht hz (plainElem_bool heb false) (key_str hks s hs)
  obtain ⟨y, rfl, hy⟩ := plainElem_bool_inv heb hv
  obtain ⟨e1, e2⟩ := h3 s
  rw [e2] at hy
  injection hy with hy _
  injection hy with hy
  injection hy with hy
  unfold Oper.wp
  simp [execOp, hop, hm, hx, hrun, Result.andThen]
  rw [← hy, hr]
  exact hK' _ _ hK
theorem wpList_bupdate (hg : o.guard = none) (m x v : Operand) (t : TypeId) (hop : o.op = Op.mapUpdate t m x v) (ht : P.underlying t = some (.map ks eb)) (hks : P.underlying ks = some .string) (heb : P.underlying eb = some .bool)
    (b n : Nat) (f : List UInt8 → Option Bool) (hm : a.eval m = .map (some b)) (hown : BMap P ks eb w b n f) (hn : n < maxLen) (s : List UInt8) (hs : s.length ≤ maxLen) (y : Bool) (hx : a.eval x = .string ⟨s.toArray⟩) (hv : a.eval v = .bool y)
    (hK : ∀ w', BMap P ks eb w' b (n + 1) (fun u => if u = s then some y else f u) → w.grownBy w' (some b) → wpList P ops Q rest (a.put o.dst undef) w') : wpList P ops Q (o :: rest) a w := by
  obtain ⟨D, h1, h2, h3⟩ := hown
  refine wpList_mapUpdate_own w hg m x v t hop ks eb (string_keyed hks) ht (plainElem P eb) b n D hm h1 hn _ _ (.string s) hx hv (key_str hks s hs) (.lit (.bool y)) [] (plainElem_bool heb y) fun w' hw' hgr => hK w' ⟨_, hw', h2.put _ _, fun u => ?_⟩ hgr
  by_cases hu : u = s
  · subst hu
    have hkl : WideAt.IsKeyLit (Lit.string u) := by simp [WideAt.IsKeyLit]
    rw [has_put_same h2 hkl, atKey_put_same h2 hkl]
    simp
  · have hne : (Lit.string u) ≠ .string s := fun e => hu (by injection e)
    rw [has_put_other hne, atKey_put_other hne]
    simp only [if_neg hu]
    exact h3 u
end
end Go.Proofs.YtkkliemgidhgmaaGreatDoor

/- Contract of solution.key, for at most 6 signs, whatever integers they are; the library's table of powers of ten lies in memory. -/
namespace Go.Proofs.YtkkliemgidhgmaaGreatDoor
open Go.RowKit Go.Shelf

theorem Tryz.infoByte : (Tryz.prog.info? 5).map (fun i => (i.zero, i.size, i.bytes)) = some (some (.int .u8 0), 1, 1) := by kernel_rfl
/-- what the key of a list of signs is -/
def keyOf (l : List Int) : List UInt8 := l.flatMap fun x => Lib.itoa x ++ [44]
theorem keyOf_snoc (l : List Int) (k : Nat) (h : k < l.length) : keyOf (l.take (k + 1)) = keyOf (l.take k) ++ Lib.itoa (l.getD k 0) ++ [44] := by
  have e : l.getD k 0 = l[k] := by simp [List.getElem?_eq_getElem h]
  unfold keyOf
  rw [List.take_succ_eq_append_getElem h, List.flatMap_append, e, List.append_assoc]
  simp only [List.flatMap_cons, List.flatMap_nil, List.append_nil]
def In64 (x : Int) : Prop := -9223372036854775808 ≤ x ∧ x ≤ 9223372036854775807
def TabOk (w : World) : Prop := Lib.TabIs Tryz.prog w "internal/strconv.uint64pow10" .u64 Lib.pow10Tab
theorem TabOk.on {w w' : World} (h : TabOk w) (hb : Below w.heap.size w w') : TabOk w' := (Lib.tabBelow_of_tabIs h) w' hb
theorem keyOf_len (l : List Int) (h : ∀ x ∈ l, In64 x) : (keyOf l).length ≤ 22 * l.length := by
  induction l with
  | nil => simp [keyOf]
  | cons x l ih =>
    have h1 := Lib.itoa_length_le x (h x (by simp)).1 (h x (by simp)).2
    have h2 := ih (fun y hy => h y (by simp [hy]))
    simp only [keyOf, List.flatMap_cons, List.length_append, List.length_cons, List.length_nil] at *
    omega

set_option maxHeartbeats 1000000 in
set_option maxRecDepth 100000 in
theorem key_any (A : Option Addr) (n c B : Nat) (l : List Int) (w : World) (hB : B ≤ w.heap.size) (hr : Reads w B 1 A n (l.map (Value.int .i64))) (hn : n ≤ 6) (hl : ∀ x ∈ l, In64 x) (htab : TabOk w) :
    Calls Tryz.prog 27 #[.slice A n c] w fun e w' => e = .returned (.string ⟨(keyOf l).toArray⟩) ∧ Below w.heap.size w w' := by
  obtain ⟨i0, hi0, hz0, hz1, hz2⟩ := info_parts Tryz.infoByte
  have HT := Lib.hid (Lib.tabBelow_of_tabIs htab)
  have HL := Lib.hid hl; clear hl
  have HN := Lib.hid hr.len
  go_enter Tryz.func27, Tryz.ntmps27
  have hb2 : i0.bytes * (3 * n) ≤ 281474976710656 := by rw [hz2]; omega
  have hb3 : 3 * n ≤ maxLen := by unfold maxLen; omega
  have hC : (3 : Int) * (n : Int) = ((3 * n : Nat) : Int) := by omega
  have HC := Lib.hid hC; clear hC
  go_wp2_with (at_make; refine wpList_make_own _ rfl _ _ 88 rfl w.heap.size 5 i0 (.int .u8 0) 1 Tryz.underlying88 hi0 hz0 hz1 _ _ _ (3 * n) rfl rfl HC.out hb2 hb3 (Nat.le_refl _) ?_; intro w1 hown1 hg1; refine Hid.out ?_)
  refine Lib.hid ?_
  have hd1 : Below w.heap.size w w1 := (Below.refl _ _).grown hg1 (Nat.le_refl _) (by simp)
  clear hg1 hb2 hb3
  go_wp2
  go_loopg [3, 5, 12] n (fun gn v _ i wr => ∃ (k : Nat), k ≤ n ∧ gn = n - k ∧ i = .int .i64 k ∧ (∃ g cap, v = .slice (some ⟨g, 0, none⟩) (keyOf (l.take k)).length cap) ∧ wr.ownsRow w.heap.size 5 1 v (keyOf (l.take k)).length (Lib.byteCells (keyOf (l.take k))) ∧ Below w.heap.size w wr)
  case atStart => exact ⟨0, Nat.zero_le _, rfl, rfl, ⟨_, _, rfl⟩, hown1, hd1⟩
  case round =>
    clear hown1 hd1
    obtain ⟨k, hk, hgk, rfl, ⟨g, cap, rfl⟩, hown, hd⟩ := hrel
    have HG := Lib.hid hgk; clear hgk
    have hz := hd.size
    have hlen := keyOf_len (l.take k) (fun x hx => HL.out x (List.mem_of_mem_take hx))
    have hlk : (l.take k).length ≤ k := List.length_take_le _ _
    by_cases hlt : k < n
    · obtain ⟨b1, o1, rfl, q1, c1⟩ := (hr.below (hd.mono hB)).int_at (k := k) hlt
      have HS := Lib.hid (keyOf_snoc l k (by have := HN.out; omega))
      obtain ⟨x0, x1⟩ := HL.out (l.getD k 0) (getD_mem (by have := HN.out; omega))
      have hil := Lib.itoa_length_le (l.getD k 0) x0 x1
      generalize l.getD k 0 = x at *
      generalize keyOf (l.take k) = kb at *
      have hlim : kb.length + 21 ≤ 140737488355328 := by omega
      go_wp2_with (go_at_call 47; refine (Tryz.strconv_AppendInt_10 w.heap.size kb.length x x0 x1 _ _ wr hown hz hlim (HT.out.on hd)).mono ?_; rintro e w2 ⟨v2, rfl, hown2, hnx2, -⟩; refine Hid.out ?_)
      refine Lib.hid ?_
      have hd2 : Below w.heap.size w w2 := hd.trans hnx2
      clear hown hnx2 hd c1
      rw [← Lib.byteCells_append] at hown2
      have hz2' := hd2.size
      have h63 : kb.length + (Lib.itoa x).length + 1 ≤ maxLen := by unfold maxLen; omega
      have hby : (kb.length + (Lib.itoa x).length + 1) * 1 ≤ 140737488355328 := by omega
      have hbase : w.heap.size ≤ (w2.alloc (.cells #[.int .u8 44] 5)).heap.size := by simp; omega
      have hown2' := hown2.alloc (.cells #[.int .u8 44] 5)
      go_wp2_with (at_builtin; refine wpList_append_any _ rfl (.tmp 19) (.tmp 20) _ rfl w.heap.size 5 i0 _ 1 1 Tryz.underlying88 hi0 hz0 hz1 hz2 rfl (Nat.le_refl _) v2 _ _ rfl hown2' _ _ 1 1 _ rfl (Reads.one_new w2 (.int .u8 44) 5) (by intro u hu; simp at hu; subst hu; rfl) h63 hby hbase ?_; intro v3 w3 hown3 hg3 hat3; refine Hid.out ?_)
      refine Lib.hid ?_
      have hd3 : Below w.heap.size w w3 := (hd2.alloc hz2' _).grown hg3 (by simp; omega) (fun k hk => (hown2'.lt k hk).1)
      obtain ⟨g3, cap3, hv3, _, _, _⟩ := own_form hown3 (by omega)
      subst hv3
      clear hown2 hown2' hd2 hg3 hat3
      go_wp2
      go_roundg (n - (k + 1))
      case rel =>
        have e1 : kb.length + (Lib.itoa x).length + 1 = (keyOf (l.take (k + 1))).length := by rw [HS.out]; simp; omega
        have e2 : Lib.byteCells (kb ++ Lib.itoa x) ++ [Value.int .u8 44] = Lib.byteCells (keyOf (l.take (k + 1))) := by rw [HS.out]; simp [Lib.byteCells]
        rw [e1, e2] at hown3
        exact ⟨k + 1, by omega, rfl, by go_num, ⟨g3, cap3, by rw [e1]⟩, by rw [e1]; exact hown3, hd3⟩
      case measure => have := HG.out; omega
    · have HK := Lib.hid (show l.take k = l by rw [List.take_of_length_le]; have := HN.out; omega)
      generalize hkb : keyOf (l.take k) = kb at *
      have HKB := Lib.hid (show keyOf l = kb by rw [← hkb, HK.out])
      clear hkb
      have hcv := run_convert_bytes_back (P := Tryz.prog) wr 88 9 5 ⟨g, 0, none⟩ cap kb Tryz.underlying88 Tryz.underlying5 Tryz.underlying9 (fun j hj => hown.cells (g := g) rfl j _ (by simp [Lib.byteCells, hj]))
      go_wp2
      go_ret
      exact ⟨by rw [HKB.out]; rfl, hd⟩
end Go.Proofs.YtkkliemgidhgmaaGreatDoor

/- Contract of solution.Separated, for at most 1000 rows of at most 6 signs, whatever integers they are. -/
namespace Go.Proofs.YtkkliemgidhgmaaGreatDoor
open Go.RowKit

theorem run_makeMap_hint {P : Program} (t k e : TypeId) (kd : IntKind) (n : Int) (ht : P.underlying t = some (.map k e)) (w : World) :
    (Instr.makeMap t (some (.int kd n))).run P w = .ok (.map (some w.heap.size)) (w.alloc (.map #[] 0)) := by
  simp [Instr.makeMap, run_underlying ht]; rfl
theorem Tryz.zeroBool (w : World) : (zeroValue 4).run Tryz.prog w = .ok (.bool false) w := by kernel_rfl

/-- what the map holds behind k rows -/
def knownF (rows : List (List Int × Bool)) : Nat → List UInt8 → Option Bool
  | 0 => fun _ => none
  | k + 1 => fun s => if s = keyOf (sg rows k) then some (tr rows k) else knownF rows k s
def sepAt (rows : List (List Int × Bool)) (k : Nat) : Bool := (knownF rows k (keyOf (sg rows k))).getD (tr rows k) == tr rows k
def codeSep (rows : List (List Int × Bool)) : Bool := allTo (sepAt rows) rows.length

set_option maxHeartbeats 1000000 in
set_option maxRecDepth 100000 in
theorem Sep_any (A : Option Addr) (n c B : Nat) (rows : List (List Int × Bool)) (w : World) (hB : B ≤ w.heap.size) (hr : RowsAt w B A rows) (hn : n = rows.length) (hm : n ≤ 1000) (hq : ∀ k, k < rows.length → (sg rows k).length ≤ 6)
    (h64 : ∀ k, k < rows.length → ∀ x ∈ sg rows k, In64 x) (htab : TabOk w) :
    Calls Tryz.prog 16 #[.slice A n c] w fun e w' => e = .returned (.bool (codeSep rows)) ∧ Below w.heap.size w w' := by
  have HN := Lib.hid hn; clear hn
  have HQ := Lib.hid hq; clear hq
  have H64 := Lib.hid h64; clear h64
  have HT := Lib.hid htab; clear htab
  have hmm := fun (n : Int) => run_makeMap_hint (P := Tryz.prog) 66 9 4 .i64 n Tryz.underlying66
  go_enter Tryz.func16, Tryz.ntmps16
  go_wp2
  clear hmm
  go_loopg [5, 6, 7, 8, 14] n (fun gn _ _ _ _ i wr => ∃ (k : Nat), k ≤ n ∧ gn = n - k ∧ i = .int .i64 k ∧ allTo (sepAt rows) k = true ∧ BMap Tryz.prog 9 4 wr w.heap.size k (knownF rows k) ∧ Below w.heap.size w wr)
  case atStart => exact ⟨0, Nat.zero_le _, rfl, rfl, rfl, BMap_made _ _ _ w, (Below.refl _ _).alloc (Nat.le_refl _) _⟩
  case round =>
    obtain ⟨k, hk, hgk, rfl, hp, hbm, hd⟩ := hrel
    have HG := Lib.hid hgk; clear hgk
    have HP := Lib.hid hp; clear hp
    have hz := hd.size
    by_cases hlt : k < n
    · obtain ⟨b1, o1, Ak, ck, rfl, q1, c1, c2, hs⟩ := (hr.below (hd.mono hB)).at_ (k := k) (by have := HN.out; omega)
      have h6 := HQ.out k (by have := HN.out; omega)
      have H64k := Lib.hid (H64.out k (by have := HN.out; omega))
      have hkl := keyOf_len (sg rows k) H64k.out
      have HS := Lib.hid (allTo_succ (sepAt rows) k)
      have HF := Lib.hid (fun h : sepAt rows k = false => show codeSep rows = false from allTo_false h (by have := HN.out; omega))
      have HA := Lib.hid (show sepAt rows k = ((knownF rows k (keyOf (sg rows k))).getD (tr rows k) == tr rows k) from rfl)
      have HK := Lib.hid (show knownF rows (k + 1) = fun s => if s = keyOf (sg rows k) then some (tr rows k) else knownF rows k s from rfl)
      generalize knownF rows k = fk at *
      generalize sg rows k = l at *
      generalize tr rows k = tk at *
      have hdA := hd.alloc hz (.cells #[.slice Ak l.length ck, .bool tk] 51)
      have hbmA := hbm.alloc (.cells #[.slice Ak l.length ck, .bool tk] 51)
      have hsA := hs.keep (w' := wr.alloc (.cells #[.slice Ak l.length ck, .bool tk] 51)) (fun p hp => World.cell?_alloc_lt _ _ _ (by omega))
      have hBA : B ≤ (wr.alloc (.cells #[.slice Ak l.length ck, .bool tk] 51)).heap.size := by simp; omega
      go_wp2_with (go_at_call 27; refine (key_any _ _ _ B l _ hBA hsA h6 H64k.out (HT.out.on hdA)).mono ?_; rintro e w2 ⟨rfl, hb2⟩; refine Hid.out ?_)
      refine Lib.hid ?_
      have hbm2 := hbmA.old hb2
      have hd2 : Below w.heap.size w w2 := hdA.trans (hb2.mono (by simp; omega))
      have c5 : w2.cell? ⟨wr.heap.size, 1, none⟩ = some (.bool tk) := (hb2.cell (p := ⟨wr.heap.size, 1, none⟩) (by simp)).trans (by simp [go_sem, World.cell?_alloc_new])
      have hks : (keyOf l).length ≤ maxLen := by unfold maxLen; omega
      have hz2 := hd2.size
      have hkn : k < maxLen := by unfold maxLen; omega
      clear hbmA hsA hdA hb2 hbm hd c1 c2 hBA hs
      generalize keyOf l = s at *
      cases hfs : fk s with
      | none =>
        have HFS := Lib.hid hfs
        go_wp2_with (first
          | (at_lookup; refine wpList_blookup_ok _ rfl _ _ 66 rfl Tryz.underlying66 Tryz.underlying9 Tryz.underlying4 (Tryz.zeroBool _) w.heap.size k fk rfl hbm2 s hks rfl ?_)
          | (at_mapUpdate; refine wpList_bupdate _ rfl _ _ _ 66 rfl Tryz.underlying66 Tryz.underlying9 Tryz.underlying4 w.heap.size k fk rfl hbm2 hkn s hks tk rfl rfl ?_; intro w3 hbm3 hg3))
        go_roundg (n - (k + 1))
        case rel =>
          exact ⟨k + 1, by omega, rfl, by go_num, by rw [HS.out, HP.out, HA.out, HFS.out]; simp, by rw [HK.out]; exact hbm3, hd2.grown hg3 hz2 (fun q hq => by injection hq with hq; omega)⟩
        case measure => have := HG.out; omega
      | some v =>
        have HFS := Lib.hid hfs
        cases hvt : (v == tk)
        · have HV := Lib.hid hvt
          go_wp2_with (first
            | (at_lookup; refine wpList_blookup_ok _ rfl _ _ 66 rfl Tryz.underlying66 Tryz.underlying9 Tryz.underlying4 (Tryz.zeroBool _) w.heap.size k fk rfl hbm2 s hks rfl ?_))
          go_ret
          exact ⟨ret_bool (HF.out (by rw [HA.out, HFS.out]; exact HV.out)).symm, hd2⟩
        · have HV := Lib.hid hvt
          go_wp2_with (first
            | (at_lookup; refine wpList_blookup_ok _ rfl _ _ 66 rfl Tryz.underlying66 Tryz.underlying9 Tryz.underlying4 (Tryz.zeroBool _) w.heap.size k fk rfl hbm2 s hks rfl ?_)
            | (at_mapUpdate; refine wpList_bupdate _ rfl _ _ _ 66 rfl Tryz.underlying66 Tryz.underlying9 Tryz.underlying4 w.heap.size k fk rfl hbm2 hkn s hks tk rfl rfl ?_; intro w3 hbm3 hg3))
          go_roundg (n - (k + 1))
          case rel =>
            exact ⟨k + 1, by omega, rfl, by go_num, by rw [HS.out, HP.out, HA.out, HFS.out]; exact HV.out, by rw [HK.out]; exact hbm3, hd2.grown hg3 hz2 (fun q hq => by injection hq with hq; omega)⟩
          case measure => have := HG.out; omega
    · go_wp2
      go_ret
      refine ⟨ret_bool ?_, hd⟩
      have := HP.out
      rw [show k = n by omega, HN.out] at this
      exact this.symm
end Go.Proofs.YtkkliemgidhgmaaGreatDoor
