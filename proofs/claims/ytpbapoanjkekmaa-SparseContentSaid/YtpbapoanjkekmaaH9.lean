/- Contracts of sparse.Neg, Sub and Pow with exponent 0. -/
import Derived.Test.YtpbapoanjkekmaaH8
namespace Go.Proofs.Ytpbapoanjkekmaa
open Go.RowKit
attribute [local go_sem ↓] Go.wp_at_zero Go.wp_at_succ

set_option maxHeartbeats 1000000 in
set_option maxRecDepth 100000 in
theorem SNeg_any (A : Option Addr) (c B N : Nat) (E : Int) (M : Nat) (ps : List PT) (w : World) (hB : B ≤ w.heap.size) (h : PIn w B A ps N E M) (hN : N ≤ 50000) (hM : M < Big) :
    Calls Try.prog 30 #[.slice A ps.length c] w (PRes (fun m => -cf (ps.map PT.tm) m) N E M w) := by
  have ho := IOf_any (-1) (by omega) (by omega) w
  unfold IntRes at ho
  have hone : ival (decide ((-1 : Int) < 0)) (dig (Int.natAbs (-1))) = -1 := ival_dig (-1)
  have hcn := fun (W : World) (hW : Below w.heap.size w W) (A3 : Option Addr) (c3 : Nat) (hb : NatB W A3 (dig (Int.natAbs (-1)))) (hc : (dig (Int.natAbs (-1))).length ≤ c3) => Scale_any A c W.heap.size N E M ps (decide ((-1 : Int) < 0)) A3 c3 (dig (Int.natAbs (-1))) W (Nat.le_refl _) ((h.below (hW.mono hB)).more (Nat.le_trans hB hW.size)) (natB_nin hb hc) hN hM (Nat.lt_of_le_of_lt (dig_len_pw (k := 1) (show Int.natAbs (-1) < pw 1 by decide)) (by omega))
  rw [hone] at hcn
  generalize hd : dig (Int.natAbs (-1)) = d1 at *
  generalize hn : decide ((-1 : Int) < 0) = n1 at *
  have HO := Lib.hid ho; have HCN := Lib.hid hcn
  clear ho hcn hd hn hone h
  generalize cf (ps.map PT.tm) = F at *
  go_enter Try.func30, Try.ntmps30
  go_wp2_with fail
  refine HO.out.mono ?_
  rintro e w1 ⟨A1, c1, rfl, h1, h2, hb1⟩
  go_wp2_with fail
  refine (HCN.out w1 hb1 A1 c1 h2 h1).mono ?_
  rintro e w2 ⟨A2, c2, o2, rfl, hg2, hb2⟩
  have hg : PGood w2 w.heap.size (.slice A2 o2.length c2) o2 (fun m => -F m) N E M := { hg2 with own := hg2.own.mono hb1.size, cf := fun m => by rw [hg2.cf]; omega, nm := by have := hg2.nm; rwa [show Int.natAbs (-1) = 1 from rfl, Nat.one_mul] at this }
  have hb := hb1.trans (hb2.mono hb1.size)
  clear hg2
  go_wp2_with fail
  go_ret
  exact ⟨A2, c2, o2, rfl, hg, hb⟩

set_option maxHeartbeats 1000000 in
set_option maxRecDepth 100000 in
theorem SSub_any (A A' : Option Addr) (c c' B N1 N2 : Nat) (E : Int) (M1 M2 : Nat) (ps qs : List PT) (w : World) (hB : B ≤ w.heap.size) (h : PIn w B A ps N1 E M1) (h' : PIn w B A' qs N2 E M2) (hN : N1 + N2 ≤ 50000) (hM : M1 + M2 < Big) (hE : E ≤ 9223372036854775807) :
    Calls Try.prog 35 #[.slice A ps.length c, .slice A' qs.length c'] w (PRes (fun m => cf (ps.map PT.tm) m - cf (qs.map PT.tm) m) (N1 + N2) E (M1 + M2) w) := by
  have hM2 : M2 < Big := by omega
  have HN := Lib.hid (SNeg_any A' c' B N2 E M2 qs w hB h' (by omega) hM2)
  have HA := Lib.hid (fun (W : World) (hW : Below w.heap.size w W) (A3 : Option Addr) (c3 : Nat) (rs : List PT) (h3 : PIn W W.heap.size A3 rs N2 E M2) => SAdd_any A A3 c c3 W.heap.size N1 N2 E M1 M2 ps rs W (Nat.le_refl _) ((h.below (hW.mono hB)).more (Nat.le_trans hB hW.size)) h3 hN hM)
  clear h h'
  generalize cf (ps.map PT.tm) = F at *
  generalize cf (qs.map PT.tm) = G at *
  go_enter Try.func35, Try.ntmps35
  go_wp2_with fail
  refine HN.out.mono ?_
  rintro e w1 ⟨A1, c1, r1, rfl, hg1, hb1⟩
  have HI := Lib.hid (hg1.pin hE hM2)
  have HC := Lib.hid hg1.cf
  clear hg1
  go_wp2_with fail
  refine (HA.out w1 hb1 A1 c1 r1 HI.out).mono ?_
  rintro e w2 ⟨A2, c2, o2, rfl, hg2, hb2⟩
  have hg : PGood w2 w.heap.size (.slice A2 o2.length c2) o2 (fun m => F m - G m) (N1 + N2) E (M1 + M2) := { hg2 with own := hg2.own.mono hb1.size, cf := fun m => by rw [hg2.cf, HC.out]; omega }
  have hb := hb1.trans (hb2.mono hb1.size)
  clear hg2
  go_wp2_with fail
  go_ret
  exact ⟨A2, c2, o2, rfl, hg, hb⟩

set_option maxHeartbeats 2000000 in
set_option maxRecDepth 100000 in
theorem Pow_zero (A : Option Addr) (c B N : Nat) (E : Int) (M : Nat) (ps : List PT) (w : World) (hB : B ≤ w.heap.size) (h : PIn w B A ps N E M) (hN : N ≤ 50000) (hM : M < Big) :
    Calls Try.prog 40 #[.slice A ps.length c, .int .i64 0] w (PRes (cf oneL) 1 0 1 w) := by
  have ho := IOf_any 1 (by omega) (by omega) w
  unfold IntRes at ho
  have hone : ival (decide ((1 : Int) < 0)) (dig (Int.natAbs 1)) = 1 := ival_dig 1
  have hcn := fun (W : World) (A3 : Option Addr) (c3 : Nat) (hb : NatB W A3 (dig (Int.natAbs 1))) (hc : (dig (Int.natAbs 1)).length ≤ c3) => Const_any (decide ((1 : Int) < 0)) A3 c3 W.heap.size (dig (Int.natAbs 1)) W (Nat.le_refl _) (natB_nin hb hc) (Nat.le_trans (dig_len_pw (k := 1) (show Int.natAbs 1 < pw 1 by decide)) (by omega))
  rw [hone] at hcn
  have HNM := Lib.hid (fun (W : World) (hW : Below w.heap.size w W) => Normal_poly A c B N E M ps W (Nat.le_trans hB hW.size) (h.below (hW.mono hB)) hN hM)
  generalize hd : dig (Int.natAbs 1) = d1 at *
  generalize hn : decide ((1 : Int) < 0) = n1 at *
  have HO := Lib.hid ho; have HCN := Lib.hid hcn
  clear ho hcn hd hn hone h
  go_enter Try.func40, Try.ntmps40
  go_wp2_with fail
  refine HO.out.mono ?_
  rintro e w1 ⟨A1, c1, rfl, h1, h2, hb1⟩
  go_wp2_with fail
  refine (HCN.out w1 A1 c1 h2 h1).mono ?_
  rintro e w2 ⟨A2, c2, o2, rfl, hg2, hb2⟩
  have HG2 := Lib.hid hg2
  clear hg2
  have hbw2 := hb1.trans (hb2.mono hb1.size)
  go_wp2_with fail
  refine (HNM.out _ hbw2).mono ?_
  rintro e w3 ⟨A3, c3, p3, rfl, hg3, hb3⟩
  have HG2' := Lib.hid (HG2.out.old hb3)
  have hbw3 := hbw2.trans (hb3.mono hbw2.size)
  clear hg3 HNM HCN HO HG2
  go_wp2_with fail
  go_loopg [6] 0 (fun _ hx wr => w3 = wr ∧ hx = .int .i64 1)
  case atStart => exact ⟨rfl, rfl⟩
  case round =>
    obtain ⟨rfl, rfl⟩ := hrel
    go_wp2_with fail
    go_loopg [5, 7] 0 (fun _ rv bt wr => w3 = wr ∧ rv = .slice A2 o2.length c2)
    case atStart => exact ⟨rfl, rfl⟩
    case round =>
      obtain ⟨rfl, rfl⟩ := hrel
      go_wp2_with fail
      go_ret
      exact ⟨A2, c2, o2, rfl, { HG2'.out with own := HG2'.out.own.mono hb1.size }, hbw3⟩
end Go.Proofs.Ytpbapoanjkekmaa
