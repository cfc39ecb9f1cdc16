/- Contracts of natural.Uint64 and integer.Int64. -/
import Derived.BigQuiet
import Derived.Test.YtnghlhcekghciaaGreatDoorZX
import Derived.Test.YtnghlhcekghciaaGreatDoorZI
namespace Go.Proofs.YtnghlhcekghciaaGreatDoor
open Go.RowKit

def U64Res (x : Nat) (w : World) (e : Ending) (w' : World) : Prop :=
  ((x < 18446744073709551616 ∧ e = .returned (.tuple #[.int .u64 (x : Int), .bool true])) ∨ (18446744073709551616 ≤ x ∧ e = .returned (.tuple #[.int .u64 0, .bool false]))) ∧ Drawn w w'
set_option maxHeartbeats 1000000 in
theorem Uint64_any (A : Option Addr) (c B : Nat) (ds : List Nat) (w : World) (hc : ds.length ≤ c) (hm : ds.length ≤ 900000) (hr : Reads w B 1 A ds.length (u32s ds)) (hd : Dig ds) :
    Calls Tryz.prog 102 #[.slice A ds.length c] w (U64Res (val ds) w) := by
  have h1 := trim_any A c B ds w hc (by omega) hr hd
  have r1 := reads_dig hr hd
  have g1 := dig_dig (val ds)
  have t1 := trim_dig (val ds)
  have v1 := val_dig (val ds)
  have l1 := dig_len_le hd
  generalize val ds = x at *
  generalize dig x = a at *
  have H1 := Lib.hid h1
  clear h1 hr hd
  subst v1
  match a, g1, t1, r1, H1, l1 with
  | [], g1, t1, r1, H1, l1 =>
    clear g1 t1 r1
    go_enter Tryz.func102, Tryz.ntmps102
    go_wp2_with fail
    refine (H1.out).mono ?_
    rintro e w1 ⟨rfl, rfl⟩
    go_wp2_with fail
    go_ret2
    exact ⟨.inl ⟨by simp [val], rfl⟩, Drawn.refl _⟩
  | [d0], g1, t1, r1, H1, l1 =>
    obtain ⟨b1, o1, rfl, q1, c1⟩ := nat_at r1 (k := 0) (by simp)
    have h0 : d0 < 4294967296 := g1 d0 (by simp)
    have HV := Lib.hid (show val [d0] = d0 by simp [val])
    simp only [List.getD_cons_zero, Nat.add_zero] at c1
    clear g1 t1 r1
    go_enter Tryz.func102, Tryz.ntmps102
    go_wp2_with fail
    refine (H1.out).mono ?_
    rintro e w1 ⟨rfl, rfl⟩
    go_wp2_with fail
    go_ret2
    exact ⟨.inl ⟨by rw [HV.out]; omega, by rw [HV.out]; rfl⟩, Drawn.refl _⟩
  | [d0, d1], g1, t1, r1, H1, l1 =>
    obtain ⟨b1, o1, rfl, q1, c1⟩ := nat_at r1 (k := 0) (by simp)
    obtain ⟨b2, o2, e2, q2, c2⟩ := nat_at r1 (k := 1) (by simp)
    injection e2 with e2
    injection e2 with x1 x2
    subst x1
    subst x2
    have h0 : d0 < 4294967296 := g1 d0 (by simp)
    have h1 : d1 < 4294967296 := g1 d1 (by simp)
    have hor := or_join d1 d0 h1 h0
    have HV := Lib.hid (show val [d0, d1] = d1 * 4294967296 + d0 by simp [val]; omega)
    have hlt : d1 * 4294967296 + d0 < 18446744073709551616 := by omega
    simp only [List.getD_cons_zero, List.getD_cons_succ, Nat.add_zero] at c1 c2
    generalize d1 * 4294967296 + d0 = y at *
    clear g1 t1 r1
    go_enter Tryz.func102, Tryz.ntmps102
    go_wp2_with fail
    refine (H1.out).mono ?_
    rintro e w1 ⟨rfl, rfl⟩
    go_wp2_with fail
    go_quiet (fail)
    go_wp2_with fail
    go_ret2
    exact ⟨.inl ⟨by rw [HV.out]; omega, by rw [HV.out]; rfl⟩, Drawn.drewN _ _⟩
  | d0 :: d1 :: d2 :: l, g1, t1, r1, H1, l1 =>
    have HV := Lib.hid (show 18446744073709551616 ≤ val (d0 :: d1 :: d2 :: l) by
      have h2 : val (d2 :: l) ≠ 0 := val_pos_of_trim (fun hn => by have := t1 (by simp); simpa using this) (by simp)
      simp only [val] at *
      omega)
    have i0 : ((d0 :: d1 :: d2 :: l).length == 0) = false := rfl
    have e0 : (((d0 :: d1 :: d2 :: l).length : Int) == 0) = false := by simp; omega
    have e1 : (((d0 :: d1 :: d2 :: l).length : Int) == 1) = false := by simp; omega
    have e2 : (((d0 :: d1 :: d2 :: l).length : Int) == 2) = false := by simp; omega
    generalize (d0 :: d1 :: d2 :: l).length = n at *
    generalize val (d0 :: d1 :: d2 :: l) = y at *
    clear g1 t1 r1 i0
    go_enter Tryz.func102, Tryz.ntmps102
    go_wp2_with fail
    refine (H1.out).mono ?_
    rintro e w1 ⟨rfl, rfl⟩
    go_wp2_with fail
    go_ret2
    exact ⟨.inr ⟨HV.out, rfl⟩, Drawn.refl _⟩

/-- how Int64 ends: the value where it fits -/
def I64Res (z : Int) (w : World) (e : Ending) (w' : World) : Prop :=
  ((-9223372036854775808 ≤ z ∧ z ≤ 9223372036854775807 ∧ e = .returned (.tuple #[.int .i64 z, .bool true])) ∨ ((z < -9223372036854775808 ∨ 9223372036854775807 < z) ∧ e = .returned (.tuple #[.int .i64 0, .bool false]))) ∧ Below w.heap.size w w'
theorem wrap_neg {x : Int} (h0 : 0 < x) (h1 : x ≤ 9223372036854775808) : wrap64 (IntKind.u64.wrap (-x)) = -x := by
  simp only [IntKind.wrap, IntKind.bits, IntKind.signed, wrap64]
  simp
  omega
set_option maxHeartbeats 1000000 in
set_option maxRecDepth 100000 in
theorem Int64_any (ng : Bool) (A : Option Addr) (c B : Nat) (ds : List Nat) (w : World) (hB : B ≤ w.heap.size) (hc : ds.length ≤ c) (hm : ds.length ≤ 900000) (hr : Reads w B 1 A ds.length (u32s ds)) (hd : Dig ds) (hz : ng = true → val ds ≠ 0) :
    Calls Tryz.prog 77 #[.agg #[.bool ng, .slice A ds.length c]] w (I64Res (ival ng ds) w) := by
  have hbl := (Below.refl w.heap.size w).alloc (Nat.le_refl _) (.cells #[.bool ng, .slice A ds.length c] 43)
  have HU := Lib.hid (Uint64_any A c B ds _ hc hm (hr.below (hbl.mono hB)) hd)
  have hkb := Blk.new w 43 #[.bool ng, .slice A ds.length c]
  have HB := Lib.hid hbl; have HK := Lib.hid hkb
  have HZV := Lib.hid (show ival ng ds = if ng then -(val ds : Int) else (val ds : Int) from rfl)
  have HZ := Lib.hid hz
  generalize ival ng ds = z at *
  generalize val ds = x at *
  generalize ds.length = n at *
  clear hbl hkb hr hd hz
  go_enter Tryz.func77, Tryz.ntmps77
  go_wp2_with fail
  refine (HU.out).mono ?_
  rintro e w1 ⟨hr, hdr⟩
  have hk := HK.out.drawn hdr
  have hb := HB.out.trans (hdr.below _)
  have d0 : w1.cell? ⟨w.heap.size, 0, none⟩ = some (.bool ng) := hk.cell 0
  have z0 := hk.lt
  rcases hr with ⟨hx, rfl⟩ | ⟨hx, rfl⟩
  · have hx2 : (x : Int) < 18446744073709551616 := by omega
    have hx0 : (0 : Int) ≤ (x : Int) := by omega
    have hx1 := Lib.hid (show ng = true → (0 : Int) < (x : Int) from fun h => by have := HZ.out h; omega)
    clear HU HZ hx
    generalize (x : Int) = y at *
    cases ng with
    | true =>
      have hx3 := hx1.out rfl
      have HZ2 := Lib.hid (show z = -y from HZV.out)
      clear HZV hx1
      by_cases k1 : y ≤ 9223372036854775808
      · go_wp2_with fail
        go_ret2
        exact ⟨.inl ⟨by rw [HZ2.out]; omega, by rw [HZ2.out]; omega, by rw [HZ2.out, wrap_neg hx3 k1]; rfl⟩, hb⟩
      · go_wp2_with fail
        go_ret2
        exact ⟨.inr ⟨by rw [HZ2.out]; omega, rfl⟩, hb⟩
    | false =>
      have HZ2 := Lib.hid (show z = y from HZV.out)
      clear HZV hx1
      by_cases k1 : y < 9223372036854775808
      · go_wp2_with fail
        go_ret2
        exact ⟨.inl ⟨by rw [HZ2.out]; omega, by rw [HZ2.out]; omega, by rw [HZ2.out]; rfl⟩, hb⟩
      · go_wp2_with fail
        go_ret2
        exact ⟨.inr ⟨by rw [HZ2.out]; omega, rfl⟩, hb⟩
  · go_wp2_with fail
    go_ret2
    refine ⟨.inr ⟨?_, rfl⟩, hb⟩
    rw [HZV.out]
    cases ng <;> simp <;> omega
end Go.Proofs.YtnghlhcekghciaaGreatDoor
