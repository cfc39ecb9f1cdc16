/- Contracts of the package integer: Of, Mul. -/
import Derived.Test.YtpbapoanjkekmaaI3
namespace Go.Proofs.Ytpbapoanjkekmaa
open Go.RowKit

set_option maxHeartbeats 1000000 in
set_option maxRecDepth 100000 in
theorem IOf_any (x : Int) (h0 : -9223372036854775808 ≤ x) (h1 : x ≤ 9223372036854775807) (w : World) : Calls Try.prog 34 #[.int .i64 x] w (IntRes x w) := by
  have hbl0 := (Below.refl w.heap.size w).alloc (Nat.le_refl _) (.cells #[.bool false, .slice none 0 0] 31)
  have hblk := Blk.new w 31 #[.bool false, .slice none 0 0]
  have hn := Of_any x.natAbs (by omega) (w.alloc (.cells #[.bool false, .slice none 0 0] 31))
  unfold NatRes at hn
  unfold IntRes
  generalize dig x.natAbs = es at *
  have HBL := Lib.hid hbl0; have HBK := Lib.hid hblk
  clear hbl0 hblk
  by_cases hx : x < 0
  · rw [show decide (x < 0) = true by simpa using hx]
    have hxe : ((x.natAbs : Nat) : Int) = IntKind.u64.wrap (-IntKind.u64.wrap x) := by
      simp only [IntKind.wrap, IntKind.bits, IntKind.signed, Bool.false_and, Bool.false_eq_true, if_false]
      omega
    rw [hxe] at hn
    have HN := Lib.hid hn
    clear hn hxe
    go_enter Try.func34, Try.ntmps34
    go_wp2_with fail
    refine HN.out.mono ?_
    rintro e w2 ⟨A1, c1, rfl, h3, h4, h5⟩
    have hk := HBK.out.old h5
    have d0 : w2.cell? ⟨w.heap.size, 0, none⟩ = some (.bool false) := (hk.cell 0).trans rfl
    have d1 : w2.cell? ⟨w.heap.size, 1, none⟩ = some (.slice none 0 0) := (hk.cell 1).trans rfl
    have f0 := hk.frozen 0
    have f1 := hk.frozen 1
    have z0 := hk.lt
    go_wp2_with fail
    have hbel := HBL.out.trans (h5.mono (by simp))
    exact ret_blk Try.results34 rfl rfl ((hk.set_ 0 _).set_ 1 _) Try.underlying31 rfl Try.sizeInt ⟨A1, c1, rfl, h3, h4.store2 hk (by decide) _ _, (hbel.setCell (Nat.le_refl _) _).setCell (Nat.le_refl _) _⟩
  · rw [show decide (x < 0) = false by simpa using hx]
    have hxe : ((x.natAbs : Nat) : Int) = x := by omega
    rw [hxe] at hn
    have HN := Lib.hid hn
    clear hn hxe
    go_enter Try.func34, Try.ntmps34
    go_wp2_with fail
    refine HN.out.mono ?_
    rintro e w2 ⟨A1, c1, rfl, h3, h4, h5⟩
    have hk := HBK.out.old h5
    have d0 : w2.cell? ⟨w.heap.size, 0, none⟩ = some (.bool false) := (hk.cell 0).trans rfl
    have d1 : w2.cell? ⟨w.heap.size, 1, none⟩ = some (.slice none 0 0) := (hk.cell 1).trans rfl
    have f0 := hk.frozen 0
    have f1 := hk.frozen 1
    have z0 := hk.lt
    go_wp2_with fail
    have hbel := HBL.out.trans (h5.mono (by simp))
    exact ret_blk Try.results34 rfl rfl ((hk.set_ 0 _).set_ 1 _) Try.underlying31 rfl Try.sizeInt ⟨A1, c1, rfl, h3, h4.store2 hk (by decide) _ _, (hbel.setCell (Nat.le_refl _) _).setCell (Nat.le_refl _) _⟩
end Go.Proofs.Ytpbapoanjkekmaa
