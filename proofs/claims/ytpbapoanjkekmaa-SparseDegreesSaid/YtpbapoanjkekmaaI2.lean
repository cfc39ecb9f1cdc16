/- Contracts of the package integer: Normal, Of, Sign, Neg. -/
import Derived.Test.YtpbapoanjkekmaaI1
namespace Go.Proofs.Ytpbapoanjkekmaa
open Go.RowKit

/-- digits that the call may read: below the block B -/
structure NatIn (w : World) (B : Nat) (A : Option Addr) (c : Nat) (ds : List Nat) : Prop where
  rd : Reads w B 1 A ds.length (u32s ds)
  dg : Dig ds
  cap : ds.length ≤ c
theorem NatIn.below {w w' : World} {B c : Nat} {A : Option Addr} {ds : List Nat} (h : NatIn w B A c ds) (hb : Below B w w') : NatIn w' B A c ds := ⟨h.rd.below hb, h.dg, h.cap⟩
theorem NatIn.more {w : World} {B B' c : Nat} {A : Option Addr} {ds : List Nat} (h : NatIn w B A c ds) (hB : B ≤ B') : NatIn w B' A c ds := ⟨h.rd.more hB, h.dg, h.cap⟩

set_option maxHeartbeats 400000 in
set_option maxRecDepth 100000 in
theorem INormal_any (ng : Bool) (A : Option Addr) (c B : Nat) (ds : List Nat) (w : World) (hB : B ≤ w.heap.size) (h : NatIn w B A c ds) (hm : ds.length ≤ 1000000) :
    Calls Try.prog 55 #[.agg #[.bool ng, .slice A ds.length c]] w (IntRes (ival ng ds) w) := by
  have hbl0 := ((Below.refl w.heap.size w).alloc (Nat.le_refl _) (.cells #[.bool ng, .slice A ds.length c] 31)).alloc (by simp) (.cells #[.bool false, .slice none 0 0] 31)
  have hn := From_any ng A c B ds _ (by simp; omega) h.cap hm (h.rd.below (hbl0.mono hB)) h.dg
  have hblk := Blk.new (w.alloc (.cells #[.bool ng, .slice A ds.length c] 31)) 31 #[.bool false, .slice none 0 0]
  rw [show (w.alloc (.cells #[.bool ng, .slice A ds.length c] 31)).heap.size = w.heap.size + 1 by simp] at hblk
  have HN := Lib.hid hn; have HBL := Lib.hid hbl0; have HBK := Lib.hid hblk
  clear hn hbl0 hblk h
  go_enter Try.func55, Try.ntmps55
  go_wp2_with fail
  refine HN.out.mono ?_
  rintro e w2 ⟨A1, c1, rfl, h1, h2, h3⟩
  generalize hz : ival ng ds = z at *
  generalize he : dig z.natAbs = es at *
  generalize hg : decide (z < 0) = g at *
  have HE := Lib.hid he; have HG := Lib.hid hg; clear he hg hz
  have hk := HBK.out.old h3
  have d0 : w2.cell? ⟨w.heap.size + 1, 0, none⟩ = some (.bool false) := (hk.cell 0).trans rfl
  have d1 : w2.cell? ⟨w.heap.size + 1, 1, none⟩ = some (.slice none 0 0) := (hk.cell 1).trans rfl
  have f0 := hk.frozen 0
  have f1 := hk.frozen 1
  have z0 := hk.lt
  go_wp2_with fail
  have hbel := HBL.out.trans (h3.mono (by simp; omega))
  exact ret_blk Try.results55 rfl rfl ((hk.set_ 0 _).set_ 1 _) Try.underlying31 rfl Try.sizeInt ⟨A1, c1, by rw [HE.out, HG.out]; rfl, by rw [HE.out]; exact h1, by rw [HE.out]; exact h2.store2 hk (by decide) _ _, (hbel.setCell (by show _ ≤ w.heap.size + 1; omega) _).setCell (by show _ ≤ w.heap.size + 1; omega) _⟩

set_option maxHeartbeats 400000 in
set_option maxRecDepth 100000 in
theorem INeg_any (ng : Bool) (A : Option Addr) (c B : Nat) (ds : List Nat) (w : World) (hB : B ≤ w.heap.size) (h : NatIn w B A c ds) (hm : ds.length ≤ 1000000) :
    Calls Try.prog 39 #[.agg #[.bool ng, .slice A ds.length c]] w (IntRes (-ival ng ds) w) := by
  have hbl0 := ((Below.refl w.heap.size w).alloc (Nat.le_refl _) (.cells #[.bool ng, .slice A ds.length c] 31)).alloc (by simp) (.cells #[.bool false, .slice none 0 0] 31)
  have hn := From_any (!ng) A c B ds _ (by simp; omega) h.cap hm (h.rd.below (hbl0.mono hB)) h.dg
  have hblk := Blk.new (w.alloc (.cells #[.bool ng, .slice A ds.length c] 31)) 31 #[.bool false, .slice none 0 0]
  rw [show (w.alloc (.cells #[.bool ng, .slice A ds.length c] 31)).heap.size = w.heap.size + 1 by simp] at hblk
  rw [show ival (!ng) ds = -ival ng ds by unfold ival; cases ng <;> simp] at hn
  have HN := Lib.hid hn; have HBL := Lib.hid hbl0; have HBK := Lib.hid hblk
  clear hn hbl0 hblk h
  go_enter Try.func39, Try.ntmps39
  go_wp2_with fail
  refine HN.out.mono ?_
  rintro e w2 ⟨A1, c1, rfl, h1, h2, h3⟩
  generalize hz : -ival ng ds = z at *
  generalize he : dig z.natAbs = es at *
  generalize hg : decide (z < 0) = g at *
  have HE := Lib.hid he; have HG := Lib.hid hg; clear he hg hz
  have hk := HBK.out.old h3
  have d0 : w2.cell? ⟨w.heap.size + 1, 0, none⟩ = some (.bool false) := (hk.cell 0).trans rfl
  have d1 : w2.cell? ⟨w.heap.size + 1, 1, none⟩ = some (.slice none 0 0) := (hk.cell 1).trans rfl
  have f0 := hk.frozen 0
  have f1 := hk.frozen 1
  have z0 := hk.lt
  go_wp2_with fail
  have hbel := HBL.out.trans (h3.mono (by simp; omega))
  exact ret_blk Try.results39 rfl rfl ((hk.set_ 0 _).set_ 1 _) Try.underlying31 rfl Try.sizeInt ⟨A1, c1, by rw [HE.out, HG.out]; rfl, by rw [HE.out]; exact h1, by rw [HE.out]; exact h2.store2 hk (by decide) _ _, (hbel.setCell (by show _ ≤ w.heap.size + 1; omega) _).setCell (by show _ ≤ w.heap.size + 1; omega) _⟩

def sgnOf (z : Int) : Int := if z < 0 then -1 else if z = 0 then 0 else 1
set_option maxHeartbeats 400000 in
set_option maxRecDepth 100000 in
theorem Sign_any (ng : Bool) (A : Option Addr) (c B : Nat) (ds : List Nat) (w : World) (hB : B ≤ w.heap.size) (h : NatIn w B A c ds) (hm : ds.length ≤ 1000000) :
    Calls Try.prog 45 #[.agg #[.bool ng, .slice A ds.length c]] w fun e w' => e = .returned (.int .i64 (sgnOf (ival ng ds))) ∧ w' = w.alloc (.cells #[.bool ng, .slice A ds.length c] 31) := by
  have hbl0 := (Below.refl w.heap.size w).alloc (Nat.le_refl _) (.cells #[.bool ng, .slice A ds.length c] 31)
  have hn := IsZero_any A c B ds _ h.cap hm (h.rd.below (hbl0.mono hB)) h.dg
  have hv : sgnOf (ival ng ds) = if val ds = 0 then 0 else if ng then -1 else 1 := by
    unfold sgnOf ival
    cases ng
    · by_cases h0 : val ds = 0
      · simp [h0]
      · rw [if_neg h0]; simp; rw [if_neg (by omega), if_neg h0]
    · by_cases h0 : val ds = 0
      · simp [h0]
      · rw [if_neg h0, if_pos rfl, if_pos (by simp; omega)]; rfl
  rw [hv]
  by_cases h0 : val ds = 0
  · have hb : (val ds == 0) = true := by simpa using h0
    rw [if_pos h0]
    rw [hb] at hn
    have HN := Lib.hid hn
    clear hn hb h0 hv h
    go_enter Try.func45, Try.ntmps45
    go_wp2_with fail
    refine HN.out.mono ?_
    rintro e w2 ⟨rfl, rfl⟩
    go_wp2_with fail
    go_ret
    exact ⟨rfl, rfl⟩
  · have hb : (val ds == 0) = false := by simpa using h0
    rw [if_neg h0]
    rw [hb] at hn
    have HN := Lib.hid hn
    clear hn hb h0 hv h
    cases ng
    · go_enter Try.func45, Try.ntmps45
      go_wp2_with fail
      refine HN.out.mono ?_
      rintro e w2 ⟨rfl, rfl⟩
      go_wp2_with fail
      go_ret
      exact ⟨rfl, rfl⟩
    · go_enter Try.func45, Try.ntmps45
      go_wp2_with fail
      refine HN.out.mono ?_
      rintro e w2 ⟨rfl, rfl⟩
      go_wp2_with fail
      go_ret
      exact ⟨rfl, rfl⟩
end Go.Proofs.Ytpbapoanjkekmaa
