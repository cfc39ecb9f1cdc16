/- The walk of the law SolutionSeparated: it returns true at every list of rows. -/
import Derived.Test.YtlfjpfbkkbhhjaaDoorL0
namespace Go.Proofs.YtlfjpfbkkbhhjaaDoor
open Go.RowKit

/-- rows in memory, however many -/
structure RowsArg (w : World) (A : Option Addr) (rows : List (List Int × Bool)) : Prop where
  at_ : RowsAt w w.heap.size A rows
  len : rows.length ≤ 9223372036854775807
  i64 : ∀ k, k < rows.length → ∀ x ∈ sg rows k, In64 x
theorem RowsArg.few {w w' : World} {A : Option Addr} {rows : List (List Int × Bool)} (h : RowsArg w A rows) (hf : fewB rows = true) (hb : Below w.heap.size w w') : RowsIn w' w.heap.size A rows := by
  unfold fewB at hf
  rw [Bool.and_eq_true, decide_eq_true_eq, allTo_iff] at hf
  exact ⟨h.at_.below hb, hf.1, fun k hk => by have := hf.2 k hk; simpa using this, h.i64⟩

set_option maxHeartbeats 1000000 in
set_option maxRecDepth 100000 in
theorem lawSep (A : Option Addr) (c : Nat) (rows : List (List Int × Bool)) (w : World) (hr : RowsArg w A rows) (htab : TabOk w) :
    Calls Tryd.prog 5 #[.slice A rows.length c] w fun e w' => e = .returned (.bool true) ∧ Below w.heap.size w w' := by
  have HT := Lib.hid htab; clear htab
  cases hf : fewB rows
  · have HF := Lib.hid hf; clear hf
    go_enter Tryd.func5, Tryd.ntmps5
    go_wp2_with fail
    refine (awake_any w HT.out).mono ?_
    rintro e w1 ⟨rfl, hb1⟩
    have hz1 := hb1.size
    go_wp2_with fail
    have hfw := Few_any A rows.length c w.heap.size rows w1 (hr.at_.below hb1) rfl hr.len
    rw [HF.out] at hfw
    refine hfw.mono ?_
    rintro e w2 ⟨rfl, rfl⟩
    clear hfw
    go_wp2_with fail
    refine (awake_any w1 (HT.out.on hb1)).mono ?_
    rintro e w2 ⟨rfl, hb2⟩
    go_wp2_with fail
    go_ret
    exact ⟨rfl, hb1.trans (hb2.mono hz1)⟩
  · have HF := Lib.hid hf; clear hf
    go_enter Tryd.func5, Tryd.ntmps5
    go_wp2_with fail
    refine (awake_any w HT.out).mono ?_
    rintro e w1 ⟨rfl, hb1⟩
    have hz1 := hb1.size
    have hri := hr.few HF.out hb1
    go_wp2_with fail
    have hfw := Few_any A rows.length c w.heap.size rows w1 hri.at_ rfl hr.len
    rw [HF.out] at hfw
    refine hfw.mono ?_
    rintro e w2 ⟨rfl, rfl⟩
    clear hfw
    go_wp2_with fail
    have h90 := hri.few
    refine (Sep_any A rows.length c w.heap.size rows w1 hz1 hri.at_ rfl (by omega) hri.six hri.i64 (HT.out.on hb1)).mono ?_
    rintro e w2 ⟨rfl, hb2⟩
    have hd2 := hb1.trans (hb2.mono hz1)
    have hri2 := hr.few HF.out hd2
    clear hri hr h90
    go_wp2_with fail
    refine (rSep_any A rows.length c w.heap.size rows w2 hri2.at_ rfl hri2.few hri2.six).mono ?_
    rintro e w3 ⟨rfl, hd3⟩
    have hce := codeSep_eq rows
    rw [hce]
    clear hce hri2
    generalize sepB rows = b
    go_wp2_with fail
    go_ret
    exact ⟨by simp, hd2.trans (hd3.below _)⟩
end Go.Proofs.YtlfjpfbkkbhhjaaDoor
