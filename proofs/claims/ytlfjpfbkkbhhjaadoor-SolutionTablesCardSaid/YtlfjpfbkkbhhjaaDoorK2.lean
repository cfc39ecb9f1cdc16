/- Contract of solution.Separated, for at most 1000 rows of at most 6 signs, whatever integers they are. -/
import Derived.Test.YtlfjpfbkkbhhjaaDoorK1
import Derived.Test.YtlfjpfbkkbhhjaaDoorBMap
namespace Go.Proofs.YtlfjpfbkkbhhjaaDoor
open Go.RowKit

theorem run_makeMap_hint {P : Program} (t k e : TypeId) (kd : IntKind) (n : Int) (ht : P.underlying t = some (.map k e)) (w : World) :
    (Instr.makeMap t (some (.int kd n))).run P w = .ok (.map (some w.heap.size)) (w.alloc (.map #[] 0)) := by
  simp [Instr.makeMap, run_underlying ht]; rfl
theorem Tryd.zeroBool (w : World) : (zeroValue 4).run Tryd.prog w = .ok (.bool false) w := by kernel_rfl

/-- what the map holds behind k rows -/
def knownF (rows : List (List Int × Bool)) : Nat → List UInt8 → Option Bool
  | 0 => fun _ => none
  | k + 1 => fun s => if s = keyOf (sg rows k) then some (tr rows k) else knownF rows k s
def sepAt (rows : List (List Int × Bool)) (k : Nat) : Bool := (knownF rows k (keyOf (sg rows k))).getD (tr rows k) == tr rows k
def codeSep (rows : List (List Int × Bool)) : Bool := allTo (sepAt rows) rows.length

set_option maxHeartbeats 1000000 in
set_option maxRecDepth 100000 in
theorem Sep_any (A : Option Addr) (n c B : Nat) (rows : List (List Int × Bool)) (w : World) (hB : B ≤ w.heap.size) (hr : RowsAt w B A rows) (hn : n = rows.length) (hm : n ≤ 1000) (hq : ∀ k, k < rows.length → (sg rows k).length ≤ 6)
    (h64 : ∀ k, k < rows.length → ∀ x ∈ sg rows k, In64 x) (htab : TabOk w) :
    Calls Tryd.prog 16 #[.slice A n c] w fun e w' => e = .returned (.bool (codeSep rows)) ∧ Below w.heap.size w w' := by
  have HN := Lib.hid hn; clear hn
  have HQ := Lib.hid hq; clear hq
  have H64 := Lib.hid h64; clear h64
  have HT := Lib.hid htab; clear htab
  have hmm := fun (n : Int) => run_makeMap_hint (P := Tryd.prog) 48 9 4 .i64 n Tryd.underlying48
  go_enter Tryd.func16, Tryd.ntmps16
  go_wp2
  clear hmm
  go_loopg [5, 6, 7, 8, 14] n (fun gn _ _ _ _ i wr => ∃ (k : Nat), k ≤ n ∧ gn = n - k ∧ i = .int .i64 k ∧ allTo (sepAt rows) k = true ∧ BMap Tryd.prog 9 4 wr w.heap.size k (knownF rows k) ∧ Below w.heap.size w wr)
  case atStart => exact ⟨0, Nat.zero_le _, rfl, rfl, rfl, BMap_made _ _ _ w, (Below.refl _ _).alloc (Nat.le_refl _) _⟩
  case round =>
    obtain ⟨k, hk, hgk, rfl, hp, hbm, hd⟩ := hrel
    have HG := Lib.hid hgk; clear hgk
    have HP := Lib.hid hp; clear hp
    have hz := hd.size
    by_cases hlt : k < n
    · obtain ⟨b1, o1, Ak, ck, rfl, q1, c1, c2, hs⟩ := (hr.below (hd.mono hB)).at_ (k := k) (by have := HN.out; omega)
      have h6 := HQ.out k (by have := HN.out; omega)
      have H64k := Lib.hid (H64.out k (by have := HN.out; omega))
      have hkl := keyOf_len (sg rows k) H64k.out
      have HS := Lib.hid (allTo_succ (sepAt rows) k)
      have HF := Lib.hid (fun h : sepAt rows k = false => show codeSep rows = false from allTo_false h (by have := HN.out; omega))
      have HA := Lib.hid (show sepAt rows k = ((knownF rows k (keyOf (sg rows k))).getD (tr rows k) == tr rows k) from rfl)
      have HK := Lib.hid (show knownF rows (k + 1) = fun s => if s = keyOf (sg rows k) then some (tr rows k) else knownF rows k s from rfl)
      generalize knownF rows k = fk at *
      generalize sg rows k = l at *
      generalize tr rows k = tk at *
      have hdA := hd.alloc hz (.cells #[.slice Ak l.length ck, .bool tk] 36)
      have hbmA := hbm.alloc (.cells #[.slice Ak l.length ck, .bool tk] 36)
      have hsA := hs.keep (w' := wr.alloc (.cells #[.slice Ak l.length ck, .bool tk] 36)) (fun p hp => World.cell?_alloc_lt _ _ _ (by omega))
      have hBA : B ≤ (wr.alloc (.cells #[.slice Ak l.length ck, .bool tk] 36)).heap.size := by simp; omega
      go_wp2_with (go_at_call 25; refine (key_any _ _ _ B l _ hBA hsA h6 H64k.out (HT.out.on hdA)).mono ?_; rintro e w2 ⟨rfl, hb2⟩; refine Hid.out ?_)
      refine Lib.hid ?_
      have hbm2 := hbmA.old hb2
      have hd2 : Below w.heap.size w w2 := hdA.trans (hb2.mono (by simp; omega))
      have c5 : w2.cell? ⟨wr.heap.size, 1, none⟩ = some (.bool tk) := (hb2.cell (p := ⟨wr.heap.size, 1, none⟩) (by simp)).trans (by simp [go_sem, World.cell?_alloc_new])
      have hks : (keyOf l).length ≤ maxLen := by unfold maxLen; omega
      have hz2 := hd2.size
      have hkn : k < maxLen := by unfold maxLen; omega
      clear hbmA hsA hdA hb2 hbm hd c1 c2 hBA hs
      generalize keyOf l = s at *
      cases hfs : fk s with
      | none =>
        have HFS := Lib.hid hfs
        go_wp2_with (first
          | (at_lookup; refine wpList_blookup_ok _ rfl _ _ 48 rfl Tryd.underlying48 Tryd.underlying9 Tryd.underlying4 (Tryd.zeroBool _) w.heap.size k fk rfl hbm2 s hks rfl ?_)
          | (at_mapUpdate; refine wpList_bupdate _ rfl _ _ _ 48 rfl Tryd.underlying48 Tryd.underlying9 Tryd.underlying4 w.heap.size k fk rfl hbm2 hkn s hks tk rfl rfl ?_; intro w3 hbm3 hg3))
        go_roundg (n - (k + 1))
        case rel =>
          exact ⟨k + 1, by omega, rfl, by go_num, by rw [HS.out, HP.out, HA.out, HFS.out]; simp, by rw [HK.out]; exact hbm3, hd2.grown hg3 hz2 (fun q hq => by injection hq with hq; omega)⟩
        case measure => have := HG.out; omega
      | some v =>
        have HFS := Lib.hid hfs
        cases hvt : (v == tk)
        · have HV := Lib.hid hvt
          go_wp2_with (first
            | (at_lookup; refine wpList_blookup_ok _ rfl _ _ 48 rfl Tryd.underlying48 Tryd.underlying9 Tryd.underlying4 (Tryd.zeroBool _) w.heap.size k fk rfl hbm2 s hks rfl ?_))
          go_ret
          exact ⟨ret_bool (HF.out (by rw [HA.out, HFS.out]; exact HV.out)).symm, hd2⟩
        · have HV := Lib.hid hvt
          go_wp2_with (first
            | (at_lookup; refine wpList_blookup_ok _ rfl _ _ 48 rfl Tryd.underlying48 Tryd.underlying9 Tryd.underlying4 (Tryd.zeroBool _) w.heap.size k fk rfl hbm2 s hks rfl ?_)
            | (at_mapUpdate; refine wpList_bupdate _ rfl _ _ _ 48 rfl Tryd.underlying48 Tryd.underlying9 Tryd.underlying4 w.heap.size k fk rfl hbm2 hkn s hks tk rfl rfl ?_; intro w3 hbm3 hg3))
          go_roundg (n - (k + 1))
          case rel =>
            exact ⟨k + 1, by omega, rfl, by go_num, by rw [HS.out, HP.out, HA.out, HFS.out]; exact HV.out, by rw [HK.out]; exact hbm3, hd2.grown hg3 hz2 (fun q hq => by injection hq with hq; omega)⟩
          case measure => have := HG.out; omega
    · go_wp2
      go_ret
      refine ⟨ret_bool ?_, hd⟩
      have := HP.out
      rw [show k = n by omega, HN.out] at this
      exact this.symm
end Go.Proofs.YtlfjpfbkkbhhjaaDoor
