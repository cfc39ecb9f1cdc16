/- The reference's arithmetic of magnitudes: less, minus. -/
import Derived.Test.YtnghlhcekghciaaGreatDoorXI
import Derived.Test.YtnghlhcekghciaaGreatDoorZX
namespace Go.Proofs.YtnghlhcekghciaaGreatDoor
open Go.RowKit

set_option maxHeartbeats 1000000 in
theorem RLess_any (A A' : Option Addr) (c c' B x y : Nat) (w : World) (h : NatIn w B A c (dig x)) (h' : NatIn w B A' c' (dig y)) (hm : (dig x).length ≤ 1000000) :
    Calls Tryz.prog 22 #[.slice A (dig x).length c, .slice A' (dig y).length c'] w fun e w' => e = .returned (.bool (decide (x < y))) ∧ Drawn w w' := by
  have r1 := h.rd; have r2 := h'.rd
  have m1 := @dig_len_mono x y
  have m2 := @dig_len_mono y x
  have g1 := dig_dig x
  have g2 := dig_dig y
  have v1 := val_dig x
  have v2 := val_dig y
  clear h h'
  generalize dig x = a at *
  generalize dig y = b at *
  have M1 := Lib.hid m1; have M2 := Lib.hid m2; have G1 := Lib.hid g1; have G2 := Lib.hid g2; have V1 := Lib.hid v1; have V2 := Lib.hid v2
  clear m1 m2 g1 g2 v1 v2
  by_cases hlt : a.length < b.length
  · have HV := Lib.hid (show decide (x < y) = true by simpa using M1.out hlt)
    have e1 : ((a.length : Int) != (b.length : Int)) = true := by simp; omega
    have e2 : (a.length : Int) < (b.length : Int) := by omega
    go_enter Tryz.func22, Tryz.ntmps22
    go_wp2_with fail
    go_ret
    exact ⟨by rw [HV.out]; rfl, .refl _⟩
  by_cases hgt : b.length < a.length
  · have HV := Lib.hid (show decide (x < y) = false by have := M2.out hgt; simp; omega)
    have e1 : ((a.length : Int) != (b.length : Int)) = true := by simp; omega
    have e2 : ¬ (a.length : Int) < (b.length : Int) := by omega
    go_enter Tryz.func22, Tryz.ntmps22
    go_wp2_with fail
    go_ret
    exact ⟨by rw [HV.out]; rfl, .refl _⟩
  have hl : a.length = b.length := by omega
  have e1 : ((a.length : Int) != (b.length : Int)) = false := by simp; omega
  have HL := Lib.hid hl
  clear hlt hgt hl
  go_enter Tryz.func22, Tryz.ntmps22
  go_wp2_with fail
  go_loopg [5] a.length (fun gn i wr => ∃ (k : Nat), k ≤ a.length ∧ gn = k ∧ i = .int .i64 ((k : Int) - 1) ∧ (∀ j, k ≤ j → j < a.length → a.getD j 0 = b.getD j 0) ∧ Drawn w wr)
  case atStart => exact ⟨_, Nat.le_refl _, rfl, rfl, fun j h1 h2 => by omega, .refl _⟩
  case round =>
    obtain ⟨k, hk, hgk, rfl, hz, hdr⟩ := hrel
    have HG := Lib.hid hgk; clear hgk
    have HZ := Lib.hid hz; clear hz
    by_cases h0 : 0 < k
    · obtain ⟨k, rfl⟩ : ∃ k', k = k' + 1 := ⟨k - 1, by omega⟩
      have hlb := HL.out
      obtain ⟨b1, o1, rfl, q1, c1⟩ := nat_at (r1.drawn hdr) (k := k) (by omega)
      obtain ⟨b2, o2, rfl, q2, c2⟩ := nat_at (r2.drawn hdr) (k := k) (by omega)
      have i1 : (k : Int) < a.length := by omega
      have i2 : (k : Int) < b.length := by omega
      have i0 : (0 : Int) ≤ (k : Int) := by omega
      have ek : ((k + 1 : Nat) : Int) - 1 = (k : Int) := by omega
      clear hlb
      rw [ek]
      have HA := Lib.hid (@val_lt_at a b HL.out k (by omega) G1.out)
      have HB := Lib.hid (@val_lt_at b a HL.out.symm k (by omega) G2.out)
      generalize hxa : a.getD k 0 = xa at *
      generalize hxb : b.getD k 0 = xb at *
      have HXA := Lib.hid hxa; have HXB := Lib.hid hxb
      clear hxa hxb ek
      rcases Nat.lt_trichotomy xa xb with h | h | h
      · have hv : x < y := by
          rw [← V1.out, ← V2.out]
          exact HA.out (fun j h1 h2 => HZ.out j (by omega) h2) h
        have HV := Lib.hid (show decide (x < y) = true by simpa using hv)
        have f1 : ((xa : Int) != (xb : Int)) = true := by simp; omega
        have f2 : (xa : Int) < (xb : Int) := by omega
        clear hv h
        go_wp2
        go_quiet (fail)
        go_wp2
        go_quiet (fail)
        go_wp2
        go_ret
        exact ⟨by rw [HV.out]; rfl, (hdr.trans (.drewN _ _)).trans (.drewN _ _)⟩
      · subst h
        go_wp2
        go_quiet (fail)
        go_wp2
        go_roundg k
        case rel => exact ⟨k, by omega, rfl, rfl, fun j h1 h2 => by
          by_cases hj : j = k
          · subst hj; rw [HXA.out, HXB.out]
          · exact HZ.out j (by omega) h2, hdr.trans (.drewN _ _)⟩
        case measure => have := HG.out; omega
      · have hv : y < x := by
          rw [← V1.out, ← V2.out]
          exact HB.out (fun j h1 h2 => (HZ.out j (by omega) (by have := HL.out; omega)).symm) h
        have HV := Lib.hid (show decide (x < y) = false by simp; omega)
        have f1 : ((xa : Int) != (xb : Int)) = true := by simp; omega
        have f2 : ¬ (xa : Int) < (xb : Int) := by omega
        have HXX := Lib.hid (show decide (xa < xb) = false by simp; omega)
        clear hv h
        go_wp2
        go_quiet (fail)
        go_wp2
        go_quiet (fail)
        go_wp2
        go_ret
        exact ⟨by rw [HV.out, ← HXX.out]; rfl, (hdr.trans (.drewN _ _)).trans (.drewN _ _)⟩
    · obtain rfl : k = 0 := by omega
      have hv : x = y := by
        rw [← V1.out, ← V2.out, val_eq_of HL.out (fun j hj => HZ.out j (by omega) hj)]
      have HV := Lib.hid (show decide (x < y) = false by simp; omega)
      clear hv
      go_wp2
      go_ret
      exact ⟨by rw [HV.out]; rfl, hdr⟩

/-- the difference so far: the digits below k, the borrow -/
structure MinSt (zs : List Nat) (br k va vb : Nat) : Prop where
  len : zs.length = k
  dg : Dig zs
  sum : val zs + vb = va + 4294967296 ^ k * br
  carry : br ≤ 1
theorem MinSt.step {zs : List Nat} {br k va vb xa xb br' t : Nat} (h : MinSt zs br k va vb) (ht : t < 4294967296) (hb : br' ≤ 1) (he : t + (br + xb) = xa + 4294967296 * br') :
    MinSt (zs ++ [t]) br' (k + 1) (va + 4294967296 ^ k * xa) (vb + 4294967296 ^ k * xb) := by
  refine ⟨by simp [h.len], fun d hd => ?_, ?_, hb⟩
  · rcases List.mem_append.1 hd with hd | hd
    · exact h.dg d hd
    · rw [List.mem_singleton] at hd; rw [hd]; exact ht
  · have h0 := h.sum
    have hv := val_append zs [t]
    rw [h.len] at hv
    simp only [val, Nat.mul_zero, Nat.add_zero] at hv
    rw [hv, Nat.pow_succ]
    generalize 4294967296 ^ k = p at *
    have e2 : p * (t + (br + xb)) = p * (xa + 4294967296 * br') := by rw [he]
    rw [Nat.mul_add, Nat.mul_add, Nat.mul_add, ← Nat.mul_assoc] at e2
    omega
theorem min_set {zs a : List Nat} {k x : Nat} (hz : zs.length = k) (hk : k < a.length) : (zs ++ a.drop k).set k x = (zs ++ [x]) ++ a.drop (k + 1) := by
  rw [List.set_append_right _ _ (by omega), hz, Nat.sub_self, List.drop_eq_getElem_cons hk, List.set_cons_zero, List.append_assoc]
  rfl
theorem min_at {zs a : List Nat} {k : Nat} (hz : zs.length = k) (hk : k < a.length) : (u32s (zs ++ a.drop k))[k]? = some (.int .u32 ((a.getD k 0 : Nat) : Int)) := by
  unfold u32s
  rw [List.getElem?_map, List.getElem?_append_right (by omega), hz, Nat.sub_self, List.drop_eq_getElem_cons hk]
  simp [List.getElem?_eq_getElem hk]
theorem val_take_over {b : List Nat} {n : Nat} (h : b.length ≤ n) : val (b.take n) = val b := by rw [List.take_of_length_le h]

set_option maxHeartbeats 2000000 in
set_option maxRecDepth 100000 in
theorem RMinus_any (A A' : Option Addr) (c c' B : Nat) (a b : List Nat) (w : World) (hB : B ≤ w.heap.size) (h : NatIn w B A c a) (h' : NatIn w B A' c' b) (hm : a.length ≤ 100000) (hm' : b.length ≤ a.length) (hle : val b ≤ val a) :
    Calls Tryz.prog 52 #[.slice A a.length c, .slice A' b.length c'] w (NatResK (val a - val b) w) := by
  obtain ⟨i0, hi0, hz0, hz1, hz2⟩ := info_parts Tryz.infoU32
  have r1 := h.rd; have r2 := h'.rd
  have G1 := Lib.hid h.dg; have G2 := Lib.hid h'.dg
  have HLE := Lib.hid hle
  clear h h' hle
  have hown := own_empty w 39
  have hrd : Reads (w.alloc (.cells #[] 39)) B 1 A a.length (u32s a) := r1.below ((Below.refl B w).alloc hB _)
  have h63 : 0 + a.length ≤ maxLen := by unfold maxLen; omega
  have hby : (0 + a.length) * 4 ≤ 140737488355328 := by omega
  have hbase : w.heap.size ≤ (w.alloc (.cells #[] 39)).heap.size := by simp
  go_enter Tryz.func52, Tryz.ntmps52
  go_wp2_with (at_builtin; refine wpList_append_any _ rfl (.tmp 9) (.tmp 10) _ rfl w.heap.size 39 i0 _ 1 4 Tryz.underlying40 hi0 hz0 hz1 hz2 rfl (Nat.le_refl _) _ _ _ rfl hown B _ a.length _ _ rfl hrd (u32s_one a) h63 hby hbase ?_; intro v3 w3 hown3 hg3 hat3; refine Hid.out ?_)
  refine Lib.hid ?_
  rw [List.nil_append, Nat.zero_add] at hown3
  have hbl : Below w.heap.size w w3 := ((Below.refl _ w).alloc (Nat.le_refl _) _).grown hg3 hbase (fun k hk => (hown.lt k hk).1)
  have hmst : MinSt [] 0 0 (val (a.take 0)) (val (b.take 0)) := ⟨rfl, by simp [Dig], rfl, by omega⟩
  clear hown hg3 hat3 hrd h63 hby hbase
  obtain ⟨A3, c3, rfl⟩ := own_slice hown3
  have hown3' : w3.ownsRow w.heap.size 39 1 (.slice A3 a.length c3) a.length (u32s ([] ++ a.drop 0)) := by simpa using hown3
  clear hown3
  go_wp2_with fail
  go_loopg [6, 7, 8, 14] a.length (fun gn bv _ _ i wr => ∃ (k : Nat) (zs : List Nat) (br : Nat), k ≤ a.length ∧ gn = a.length - k ∧ i = .int .i64 k ∧ bv = .int .u64 (br : Int) ∧ MinSt zs br k (val (a.take k)) (val (b.take k)) ∧ wr.ownsRow w.heap.size 39 1 (.slice A3 a.length c3) a.length (u32s (zs ++ a.drop k)) ∧ Below w.heap.size w wr)
  case atStart => exact ⟨0, [], 0, by omega, rfl, rfl, rfl, hmst, hown3', hbl⟩
  case round =>
    clear hmst hown3' hbl
    obtain ⟨k, zs, br, hk, hgk, rfl, rfl, hst, hown, hbl⟩ := hrel
    have HG := Lib.hid hgk
    clear hgk
    have hz := hbl.size
    have hbr := hst.carry
    by_cases hlt : k < a.length
    · obtain ⟨g, cap, hv, hgb, hgl, _⟩ := own_form hown (by omega)
      injection hv with hv1 hv2 hv3
      subst hv1
      subst hv3
      have hxa := dig_at G1.out k
      have c1 : wr.cell? ⟨g, k, none⟩ = some (.int .u32 ((a.getD k 0 : Nat) : Int)) := by
        have := hown.cells (g := g) rfl k _ (min_at hst.len hlt)
        rwa [Addr.add_lit, Nat.zero_add] at this
      have f1 : wr.frozen? ⟨g, k, none⟩ = false := by
        rcases hown.2 with ⟨h1, _⟩ | ⟨g', cap', cur, h1, h2, h3, _⟩
        · cases h1
        · injection h1 with a1
          injection a1 with a1
          injection a1 with a1
          subst a1
          exact (show Blk wr g 39 cur from h3).frozen k
      have hta := val_take_succ hlt
      obtain ⟨xb, hxb, htb, hcb⟩ : ∃ xb, xb < 4294967296 ∧ val (b.take (k + 1)) = val (b.take k) + 4294967296 ^ k * xb ∧ (k < b.length → ∃ b1 o1, A' = some ⟨b1, o1, none⟩ ∧ wr.cell? ⟨b1, o1 + k, none⟩ = some (.int .u32 (xb : Int))) ∧ (b.length ≤ k → xb = 0) := by
        by_cases hkb : k < b.length
        · refine ⟨b.getD k 0, dig_at G2.out k, val_take_succ hkb, fun _ => ?_, fun h => by omega⟩
          obtain ⟨b1, o1, e, _, c1⟩ := nat_at (r2.below (hbl.mono hB)) hkb
          exact ⟨b1, o1, e, c1⟩
        · exact ⟨0, by omega, val_take_out (by omega), fun h => absurd h hkb, fun _ => rfl⟩
      have HPUT : Hid (∀ (t : Nat) (u : Int), u = (t : Int) → (wr.setCell ⟨g, k, none⟩ (.int .u32 u)).ownsRow w.heap.size 39 1 (.slice (some ⟨g, 0, none⟩) a.length c3) a.length (u32s ((zs ++ [t]) ++ a.drop (k + 1)))) := Lib.hid (fun t u hu => by
        have := own_put hown k (.int .u32 u)
        rw [← min_set (x := t) hst.len hlt]
        unfold u32s at this ⊢
        rw [List.map_set, ← hu]
        exact this)
      have HSTEP := Lib.hid (fun t br' => @MinSt.step zs br k (val (a.take k)) (val (b.take k)) (a.getD k 0) xb br' t hst)
      rw [← hta, ← htb] at HSTEP
      have HCB := Lib.hid hcb
      clear hta htb hcb
      have HST := Lib.hid hst
      have HOW := Lib.hid hown
      clear hst hown
      generalize a.getD k 0 = xa at *
      have j1 : (k : Int) < (a.length : Int) := by omega
      have j0 : (0 : Int) ≤ (k : Int) := by omega
      by_cases hkb : k < b.length
      · obtain ⟨b2, o2, rfl, c2⟩ := HCB.out.1 hkb
        have j2 : (k : Int) < (b.length : Int) := by omega
        clear HCB
        by_cases hlow : xa < br + xb
        · have l1 : (xa : Int) < (br : Int) + (xb : Int) := by omega
          obtain ⟨t, ht, he, hi⟩ : ∃ t : Nat, t < 4294967296 ∧ t + (br + xb) = xa + 4294967296 * 1 ∧ (xa : Int) + 4294967296 - ((br : Int) + (xb : Int)) = (t : Int) := ⟨xa + 4294967296 - (br + xb), by omega, by omega, by omega⟩
          have HN := Lib.hid (HSTEP.out t 1 ht (by omega) he)
          have HP := Lib.hid (HPUT.out t ((xa : Int) + 4294967296 - ((br : Int) + (xb : Int))) hi)
          clear HSTEP HPUT hlow ht he hi
          go_wp2_with fail
          go_roundg (a.length - (k + 1))
          case rel => exact ⟨k + 1, _, 1, by omega, rfl, by go_num, rfl, HN.out, HP.out, hbl.setCell (p := ⟨g, k, none⟩) hgb _⟩
          case measure => have := HG.out; omega
        · have l1 : ¬ (xa : Int) < (br : Int) + (xb : Int) := by omega
          obtain ⟨t, ht, he, hi⟩ : ∃ t : Nat, t < 4294967296 ∧ t + (br + xb) = xa + 4294967296 * 0 ∧ ((xa : Int) + 4294967296 - ((br : Int) + (xb : Int))) % 4294967296 = (t : Int) := ⟨xa - (br + xb), by omega, by omega, by omega⟩
          have HN := Lib.hid (HSTEP.out t 0 ht (by omega) he)
          have HP := Lib.hid (HPUT.out t (((xa : Int) + 4294967296 - ((br : Int) + (xb : Int))) % 4294967296) hi)
          clear HSTEP HPUT hlow ht he hi
          go_wp2_with fail
          go_roundg (a.length - (k + 1))
          case rel => exact ⟨k + 1, _, 0, by omega, rfl, by go_num, rfl, HN.out, HP.out, hbl.setCell (p := ⟨g, k, none⟩) hgb _⟩
          case measure => have := HG.out; omega
      · obtain rfl : xb = 0 := HCB.out.2 (by omega)
        have j2 : ¬ (k : Int) < (b.length : Int) := by omega
        clear HCB
        by_cases hlow : xa < br + 0
        · have l1 : (xa : Int) < (br : Int) := by omega
          obtain ⟨t, ht, he, hi⟩ : ∃ t : Nat, t < 4294967296 ∧ t + (br + 0) = xa + 4294967296 * 1 ∧ (xa : Int) + 4294967296 - ((br : Int)) = (t : Int) := ⟨xa + 4294967296 - (br + 0), by omega, by omega, by omega⟩
          have HN := Lib.hid (HSTEP.out t 1 ht (by omega) he)
          have HP := Lib.hid (HPUT.out t ((xa : Int) + 4294967296 - ((br : Int))) hi)
          clear HSTEP HPUT hlow ht he hi
          go_wp2_with fail
          go_roundg (a.length - (k + 1))
          case rel => exact ⟨k + 1, _, 1, by omega, rfl, by go_num, rfl, HN.out, HP.out, hbl.setCell (p := ⟨g, k, none⟩) hgb _⟩
          case measure => have := HG.out; omega
        · have l1 : ¬ (xa : Int) < (br : Int) := by omega
          obtain ⟨t, ht, he, hi⟩ : ∃ t : Nat, t < 4294967296 ∧ t + (br + 0) = xa + 4294967296 * 0 ∧ ((xa : Int) + 4294967296 - ((br : Int))) % 4294967296 = (t : Int) := ⟨xa - (br + 0), by omega, by omega, by omega⟩
          have HN := Lib.hid (HSTEP.out t 0 ht (by omega) he)
          have HP := Lib.hid (HPUT.out t (((xa : Int) + 4294967296 - ((br : Int))) % 4294967296) hi)
          clear HSTEP HPUT hlow ht he hi
          go_wp2_with fail
          go_roundg (a.length - (k + 1))
          case rel => exact ⟨k + 1, _, 0, by omega, rfl, by go_num, rfl, HN.out, HP.out, hbl.setCell (p := ⟨g, k, none⟩) hgb _⟩
          case measure => have := HG.out; omega
    · obtain rfl : k = a.length := by omega
      have hv : val zs = val a - val b := by
        have h0 := hst.sum
        rw [List.take_length, val_take_over hm'] at h0
        have h1 := val_lt hst.dg
        rw [hst.len] at h1
        have := HLE.out
        rcases Nat.eq_zero_or_pos br with hb0 | hb0
        · rw [hb0, Nat.mul_zero] at h0; omega
        · rw [show br = 1 by omega, Nat.mul_one] at h0; omega
      have hdz := hst.dg
      have hlz := hst.len
      rw [List.drop_length, List.append_nil] at hown
      have hnk := NatK.of_own hown
      have hcp := own_cap hown
      have hRT := RTrim_any A3 c3 wr.heap.size zs wr (Nat.le_refl _) ⟨hnk.reads, hdz, by omega⟩ (by omega)
      rw [hv, hlz] at hRT
      have HRT := Lib.hid hRT
      clear hRT hv hdz hlz hnk hown hst
      go_wp2_with fail
      refine HRT.out.mono ?_
      rintro e w4 ⟨A4, c4, rfl, h1, h2, h3⟩
      have HE := Lib.hid (And.intro h1 (And.intro h2 (hbl.trans (h3.mono hz))))
      clear h1 h2 h3
      go_wp2_with fail
      go_ret
      exact ⟨A4, c4, rfl, HE.out.1, HE.out.2.1, HE.out.2.2⟩
end Go.Proofs.YtnghlhcekghciaaGreatDoor
