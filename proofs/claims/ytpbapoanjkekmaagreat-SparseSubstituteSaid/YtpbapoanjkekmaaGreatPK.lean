/- Contracts of sparse.Pow at the exponents 0 to 4. -/
import Derived.Test.YtpbapoanjkekmaaGreatZK
import Derived.Test.YtpbapoanjkekmaaGreatZR
import Derived.Test.YtpbapoanjkekmaaGreatPF
namespace Go.Proofs.YtpbapoanjkekmaaGreat
open Go.RowKit

theorem mulL_one (p : List Tm) : mulL p oneL = p := by
  unfold mulL oneL
  induction p with
  | nil => rfl
  | cons s p ih =>
    rw [List.flatMap_cons, ih]
    obtain ⟨a, m⟩ := s
    simp [addM]
theorem mulL_assoc (p q r : List Tm) : mulL (mulL p q) r = mulL p (mulL q r) := by
  unfold mulL
  rw [List.flatMap_assoc]
  congr 1
  funext s
  rw [List.map_flatMap, List.flatMap_map]
  congr 1
  funext t
  rw [List.map_map]
  congr 1
  funext u
  simp only [Function.comp, addM, Int.mul_assoc, Int.add_assoc]
/-- a power as a list of terms -/
def powL (P : List Tm) : Nat → List Tm
  | 0 => oneL
  | j + 1 => mulL (powL P j) P
theorem powL_add (P : List Tm) (a b : Nat) : mulL (powL P a) (powL P b) = powL P (a + b) := by
  induction b with
  | zero => exact mulL_one _
  | succ b ih =>
    show mulL (powL P a) (mulL (powL P b) P) = mulL (powL P (a + b)) P
    rw [← mulL_assoc, ih]
theorem mulL_vl {p q : List Tm} (hp : ∀ t ∈ p, vld t.2 = true) (hq : ∀ t ∈ q, vld t.2 = true) : ∀ t ∈ mulL p q, vld t.2 = true := by
  intro t ht
  obtain ⟨s, hs, ht⟩ := List.mem_flatMap.1 ht
  obtain ⟨u, hu, rfl⟩ := List.mem_map.1 ht
  exact vld_add (hp s hs) (hq u hu)
theorem oneL_vl : ∀ t ∈ oneL, vld t.2 = true := by
  intro t ht
  rw [List.mem_singleton.1 ht]
  rfl
theorem powL_vl {P : List Tm} (h : ∀ t ∈ P, vld t.2 = true) : ∀ j, ∀ t ∈ powL P j, vld t.2 = true
  | 0 => oneL_vl
  | j + 1 => mulL_vl (powL_vl h j) h
theorem vF_id {l : List Tm} (h : ∀ t ∈ l, vld t.2 = true) : vF l = l := List.filter_eq_self.2 h
theorem mulC_pow {P r s : List Tm} (hP : ∀ t ∈ P, vld t.2 = true) {a b : Nat} (h : ∀ m, cf r m = cf (powL P a) m) (k : ∀ m, cf s m = cf (powL P b) m) (m : Mo) : mulC r s m = cf (powL P (a + b)) m := by
  rw [mulC_ext h k, ← cf_all_prod, vF_id (powL_vl hP a), vF_id (powL_vl hP b), powL_add]
theorem evL_mulL (pt : Nat → Rat) {p q : List Tm} (hp : ∀ t ∈ p, vld t.2 = true) (hq : ∀ t ∈ q, vld t.2 = true) : evL pt (mulL p q) = evL pt p * evL pt q := linQ_mulL _ (mval_add pt) p q hp hq
theorem evL_one (pt : Nat → Rat) : evL pt oneL = 1 := by
  unfold evL oneL linQ linQ mval
  rw [if_pos (by rfl)]
  simp only [Int.toNat_zero, Rat.pow_zero]
  grind
theorem evL_pow (pt : Nat → Rat) {P : List Tm} (h : ∀ t ∈ P, vld t.2 = true) : ∀ j, evL pt (powL P j) = evL pt P ^ j
  | 0 => by rw [Rat.pow_zero]; exact evL_one pt
  | j + 1 => by rw [Rat.pow_succ, ← evL_pow pt h j]; exact evL_mulL pt (powL_vl h j) h
theorem one_mulL (p : List Tm) : mulL oneL p = p := by
  unfold mulL oneL
  rw [List.flatMap_cons, List.flatMap_nil, List.append_nil]
  conv => rhs; rw [← List.map_id p]
  congr 1
  funext t
  simp [addM_zero]
theorem powL_one (P : List Tm) : powL P 1 = P := one_mulL P
abbrev PowPost (ps : List PT) (N : Nat) (E : Int) (M n : Nat) (w : World) : Ending → World → Prop := PRes (cf (powL (vF (ps.map PT.tm)) n)) (N ^ n) ((n : Int) * E) (M ^ n) w
theorem SMul_pow (P : List Tm) (hP : ∀ t ∈ P, vld t.2 = true) (N M n : Nat) (E : Int) (hN0 : 0 < N) (hM0 : 0 < M) (hN : N ^ n ≤ 50000) (hE0 : 0 ≤ E) (hE : E ≤ 1000) (hn : n ≤ 1000) (hM : M ^ n < pw 47) (a b : Nat) (hab : a + b ≤ n) (V : World) (B1 : Nat) (hB1 : B1 ≤ V.heap.size) (A1 A2 : Option Addr) (c1 c2 : Nat) (r s : List PT)
    (h1 : PIn V B1 A1 r (N ^ a) ((a : Int) * E) (M ^ a)) (h2 : PIn V B1 A2 s (N ^ b) ((b : Int) * E) (M ^ b)) (k1 : ∀ m, cf (r.map PT.tm) m = cf (powL P a) m) (k2 : ∀ m, cf (s.map PT.tm) m = cf (powL P b) m) :
    Calls Tryz.prog 14 #[.slice A1 r.length c1, .slice A2 s.length c2] V (PRes (cf (powL P (a + b))) (N ^ (a + b)) (((a + b : Nat) : Int) * E) (M ^ (a + b)) V) := by
  have hNa := Nat.le_trans (Nat.pow_le_pow_right hN0 (show a ≤ n by omega)) hN
  have hNb := Nat.le_trans (Nat.pow_le_pow_right hN0 (show b ≤ n by omega)) hN
  have hNab := Nat.le_trans (Nat.pow_le_pow_right hN0 hab) hN
  have hMa := Nat.lt_of_le_of_lt (Nat.pow_le_pow_right hM0 (show a ≤ n by omega)) hM
  have hMb := Nat.lt_of_le_of_lt (Nat.pow_le_pow_right hM0 (show b ≤ n by omega)) hM
  have hMab := Nat.lt_of_le_of_lt (Nat.pow_le_pow_right hM0 hab) hM
  have hEa : (a : Int) * E ≤ 1000000 := by
    have := Int.mul_le_mul (show (a : Int) ≤ 1000 by omega) hE hE0 (by omega)
    omega
  have hEb : (b : Int) * E ≤ 1000000 := by
    have := Int.mul_le_mul (show (b : Int) ≤ 1000 by omega) hE hE0 (by omega)
    omega
  have h := SMul_any A1 A2 c1 c2 B1 (N ^ a) (N ^ b) ((a : Int) * E) ((b : Int) * E) (M ^ a) (M ^ b) r s V hB1 h1 h2 hNa hNb (by rw [← Nat.pow_add]; exact hNab) hEa hEb hMa (Nat.lt_trans hMb (pw_lt (by decide))) (by rw [← Nat.pow_add]; exact Nat.lt_trans hMab (pw_lt (show 47 < 600 by decide)))
  rw [show mulC (r.map PT.tm) (s.map PT.tm) = cf (powL P (a + b)) from funext fun m => mulC_pow hP k1 k2 m, ← Nat.pow_add, ← Nat.pow_add, ← Int.add_mul, ← Int.natCast_add] at h
  exact h
set_option maxHeartbeats 2000000 in
set_option maxRecDepth 100000 in
theorem Pow_n0 (A : Option Addr) (c B N : Nat) (E : Int) (M : Nat) (ps : List PT) (w : World) (hB : B ≤ w.heap.size) (h : PIn w B A ps N E M) (hN : N ≤ 50000) (hM : M < Big) :
    Calls Tryz.prog 16 #[.slice A ps.length c, .int .i64 0] w (PRes (cf oneL) 1 0 1 w) := by
  have ho := IOf_any 1 (by omega) (by omega) w
  unfold IntRes at ho
  have hone : ival (decide ((1 : Int) < 0)) (dig (Int.natAbs 1)) = 1 := ival_dig 1
  have hcn := fun (W : World) (A3 : Option Addr) (c3 : Nat) (hb : NatB W A3 (dig (Int.natAbs 1))) (hc : (dig (Int.natAbs 1)).length ≤ c3) => Const_any (decide ((1 : Int) < 0)) A3 c3 W.heap.size (dig (Int.natAbs 1)) W (Nat.le_refl _) (natB_nin hb hc) (Nat.le_trans (dig_len_pw (k := 1) (show Int.natAbs 1 < pw 1 by decide)) (by omega))
  rw [hone] at hcn
  have HNM := Lib.hid (fun (W : World) (hW : Below w.heap.size w W) => Normal_poly A c B N E M ps W (Nat.le_trans hB hW.size) (h.below (hW.mono hB)) hN hM)
  generalize hd : dig (Int.natAbs 1) = d1 at *
  generalize hn : decide ((1 : Int) < 0) = n1 at *
  have HO := Lib.hid ho; have HCN := Lib.hid hcn
  clear ho hcn hd hn hone h
  go_enter Tryz.func16, Tryz.ntmps16
  go_wp2_with fail
  refine HO.out.mono ?_
  rintro e w1 ⟨A1, c1, rfl, h1, h2, hb1⟩
  go_wp2_with fail
  refine (HCN.out w1 A1 c1 h2 h1).mono ?_
  rintro e w2 ⟨A2, c2, o2, rfl, hg2, hb2⟩
  have HG2 := Lib.hid hg2
  clear hg2
  have hbw2 := hb1.trans (hb2.mono hb1.size)
  go_wp2_with fail
  refine (HNM.out _ hbw2).mono ?_
  rintro e w3 ⟨A3, c3, p3, rfl, hg3, hb3⟩
  have HG2' := Lib.hid (HG2.out.old hb3)
  have hbw3 := hbw2.trans (hb3.mono hbw2.size)
  clear hg3 HNM HCN HO HG2
  go_wp2_with fail
  go_loopg [6] 0 (fun _ hx wr => w3 = wr ∧ hx = .int .i64 1)
  case atStart => exact ⟨rfl, rfl⟩
  case round =>
    obtain ⟨rfl, rfl⟩ := hrel
    go_wp2_with fail
    go_loopg [5, 7] 0 (fun _ rv bt wr => w3 = wr ∧ rv = .slice A2 o2.length c2)
    case atStart => exact ⟨rfl, rfl⟩
    case round =>
      obtain ⟨rfl, rfl⟩ := hrel
      go_wp2_with fail
      go_ret
      exact ⟨A2, c2, o2, rfl, { HG2'.out with own := HG2'.out.own.mono hb1.size }, hbw3⟩
set_option maxHeartbeats 2000000 in
set_option maxRecDepth 100000 in
theorem Pow_neg2 (A : Option Addr) (c B N : Nat) (E : Int) (M : Nat) (ps : List PT) (w : World) (hB : B ≤ w.heap.size) (h : PIn w B A ps N E M) (hN : N ≤ 50000) (hM : M < Big) :
    Calls Tryz.prog 16 #[.slice A ps.length c, .int .i64 (-2)] w (PRes (cf oneL) 1 0 1 w) := by
  have ho := IOf_any 1 (by omega) (by omega) w
  unfold IntRes at ho
  have hone : ival (decide ((1 : Int) < 0)) (dig (Int.natAbs 1)) = 1 := ival_dig 1
  have hcn := fun (W : World) (A3 : Option Addr) (c3 : Nat) (hb : NatB W A3 (dig (Int.natAbs 1))) (hc : (dig (Int.natAbs 1)).length ≤ c3) => Const_any (decide ((1 : Int) < 0)) A3 c3 W.heap.size (dig (Int.natAbs 1)) W (Nat.le_refl _) (natB_nin hb hc) (Nat.le_trans (dig_len_pw (k := 1) (show Int.natAbs 1 < pw 1 by decide)) (by omega))
  rw [hone] at hcn
  have HNM := Lib.hid (fun (W : World) (hW : Below w.heap.size w W) => Normal_poly A c B N E M ps W (Nat.le_trans hB hW.size) (h.below (hW.mono hB)) hN hM)
  generalize hd : dig (Int.natAbs 1) = d1 at *
  generalize hn : decide ((1 : Int) < 0) = n1 at *
  have HO := Lib.hid ho; have HCN := Lib.hid hcn
  clear ho hcn hd hn hone h
  go_enter Tryz.func16, Tryz.ntmps16
  go_wp2_with fail
  refine HO.out.mono ?_
  rintro e w1 ⟨A1, c1, rfl, h1, h2, hb1⟩
  go_wp2_with fail
  refine (HCN.out w1 A1 c1 h2 h1).mono ?_
  rintro e w2 ⟨A2, c2, o2, rfl, hg2, hb2⟩
  have HG2 := Lib.hid hg2
  clear hg2
  have hbw2 := hb1.trans (hb2.mono hb1.size)
  go_wp2_with fail
  refine (HNM.out _ hbw2).mono ?_
  rintro e w3 ⟨A3, c3, p3, rfl, hg3, hb3⟩
  have HG2' := Lib.hid (HG2.out.old hb3)
  have hbw3 := hbw2.trans (hb3.mono hbw2.size)
  clear hg3 HNM HCN HO HG2
  go_wp2_with fail
  go_loopg [6] 0 (fun _ hx wr => w3 = wr ∧ hx = .int .i64 1)
  case atStart => exact ⟨rfl, rfl⟩
  case round =>
    obtain ⟨rfl, rfl⟩ := hrel
    go_wp2_with fail
    go_loopg [5, 7] 0 (fun _ rv bt wr => w3 = wr ∧ rv = .slice A2 o2.length c2)
    case atStart => exact ⟨rfl, rfl⟩
    case round =>
      obtain ⟨rfl, rfl⟩ := hrel
      go_wp2_with fail
      go_ret
      exact ⟨A2, c2, o2, rfl, { HG2'.out with own := HG2'.out.own.mono hb1.size }, hbw3⟩
set_option maxHeartbeats 4000000 in
set_option maxRecDepth 100000 in
theorem Pow_n1 (A : Option Addr) (c B N : Nat) (E : Int) (M : Nat) (ps : List PT) (w : World) (hB : B ≤ w.heap.size) (h : PIn w B A ps N E M) (hN0 : 0 < N) (hM0 : 0 < M) (hN : N ^ 1 ≤ 50000) (hE0 : 0 ≤ E) (hE : E ≤ 1000) (hM : M ^ 1 < pw 47) :
    Calls Tryz.prog 16 #[.slice A ps.length c, .int .i64 1] w (PRes (cf (powL (vF (ps.map PT.tm)) 1)) (N ^ 1) (((1 : Nat) : Int) * E) (M ^ 1) w) := by
  have hN1 : N ≤ 50000 := Nat.le_trans (Nat.le_trans (Nat.le_of_eq (Nat.pow_one N).symm) (Nat.pow_le_pow_right hN0 (show 1 ≤ 1 by omega))) hN
  have hM1 : M < pw 47 := Nat.lt_of_le_of_lt (Nat.le_trans (Nat.le_of_eq (Nat.pow_one M).symm) (Nat.pow_le_pow_right hM0 (show 1 ≤ 1 by omega))) hM
  have hMB : M < Big := Nat.lt_trans hM1 (pw_lt (show 47 < 600 by decide))
  have ho := IOf_any 1 (by omega) (by omega) w
  unfold IntRes at ho
  have hone : ival (decide ((1 : Int) < 0)) (dig (Int.natAbs 1)) = 1 := ival_dig 1
  have hcn := fun (W : World) (A3 : Option Addr) (c3 : Nat) (hb : NatB W A3 (dig (Int.natAbs 1))) (hc : (dig (Int.natAbs 1)).length ≤ c3) => Const_any (decide ((1 : Int) < 0)) A3 c3 W.heap.size (dig (Int.natAbs 1)) W (Nat.le_refl _) (natB_nin hb hc) (Nat.le_trans (dig_len_pw (k := 1) (show Int.natAbs 1 < pw 1 by decide)) (by omega))
  rw [hone] at hcn
  have HNM := Lib.hid (fun (W : World) (hW : Below w.heap.size w W) => Normal_poly A c B N E M ps W (Nat.le_trans hB hW.size) (h.below (hW.mono hB)) (by omega) hMB)
  have HMUL := Lib.hid (SMul_pow (vF (ps.map PT.tm)) (vF_vl _) N M 1 E hN0 hM0 hN hE0 hE (by omega) hM)
  have HP1 := Lib.hid (fun m => show cf (ps.map PT.tm) m = cf (powL (vF (ps.map PT.tm)) 1) m by rw [powL_one, cf_vF])
  have HPB := Lib.hid (fun (r : Nat) (hr : r ≤ 1) => Nat.lt_trans (Nat.lt_of_le_of_lt (Nat.pow_le_pow_right hM0 hr) hM) (pw_lt (show 47 < 600 by decide)))
  have HEB := Lib.hid (fun (r : Nat) (hr : r ≤ 1) => show (r : Int) * E ≤ 9223372036854775807 by
    have := Int.mul_le_mul (show (r : Int) ≤ 1000 by omega) hE hE0 (by omega)
    omega)
  generalize hd : dig (Int.natAbs 1) = d1 at *
  generalize hn : decide ((1 : Int) < 0) = n1 at *
  have HO := Lib.hid ho; have HCN := Lib.hid hcn
  have HE := Lib.hid (And.intro hE0 hE)
  clear ho hcn hd hn hone h hN hM hM1 hE hE0 hN1
  generalize vF (ps.map PT.tm) = P at *
  generalize cf (ps.map PT.tm) = F at *
  go_enter Tryz.func16, Tryz.ntmps16
  go_wp2_with fail
  refine HO.out.mono ?_
  rintro e w1 ⟨A1, c1, rfl, h1, h2, hb1⟩
  go_wp2_with fail
  refine (HCN.out w1 A1 c1 h2 h1).mono ?_
  rintro e w2 ⟨A2, c2, o2, rfl, hg2, hb2⟩
  have HG2 := Lib.hid hg2
  clear hg2
  have hbw2 := hb1.trans (hb2.mono hb1.size)
  go_wp2_with fail
  refine (HNM.out _ hbw2).mono ?_
  rintro e w3 ⟨A3, c3, p3, rfl, hg3, hb3⟩
  have HG3 := Lib.hid hg3
  have HG2' := Lib.hid (HG2.out.old hb3)
  have hbw3 := hbw2.trans (hb3.mono hbw2.size)
  clear hg3 HNM HCN HO HG2
  have hp3 := HG3.out.pin (by have := HE.out.2; omega) hMB
  have HP3 := Lib.hid (show PIn w3 w3.heap.size A3 p3 (N ^ 1) (((1 : Nat) : Int) * E) (M ^ 1) by
    rw [Nat.pow_one, Nat.pow_one, Int.natCast_one, Int.one_mul]; exact hp3)
  have HK3 := Lib.hid (fun m => (HG3.out.cf m).trans (HP1.out m))
  clear hp3
  go_wp2_with fail
  go_loopg [6] 0 (fun gn hx wr => w3 = wr ∧ ((gn = 0 ∧ hx = .int .i64 1)))
  case atStart => exact ⟨rfl, ⟨rfl, rfl⟩⟩
  case round =>
    obtain ⟨rfl, hst⟩ := hrel
    rcases hst with ⟨hg, rfl⟩
    · clear hg
      go_wp2_with fail
      go_loopg [5, 7] 1 (fun gn rv bt wr => Below w3.heap.size w3 wr ∧ ((gn = 1 ∧ bt = .int .i64 1 ∧ ∃ A' c' rs, rv = .slice A' rs.length c' ∧ PGood wr w.heap.size (.slice A' rs.length c') rs (cf (powL P 0)) (N ^ 0) (((0 : Nat) : Int) * E) (M ^ 0)) ∨ (gn = 0 ∧ bt = .int .i64 0 ∧ ∃ A' c' rs, rv = .slice A' rs.length c' ∧ PGood wr w.heap.size (.slice A' rs.length c') rs (cf (powL P 1)) (N ^ 1) (((1 : Nat) : Int) * E) (M ^ 1))))
      case atStart => exact ⟨Below.refl _ _, .inl ⟨rfl, rfl, A2, c2, o2, rfl, by rw [Nat.pow_zero, Nat.pow_zero, Int.natCast_zero, Int.zero_mul]; exact { HG2'.out with own := HG2'.out.own.mono hb1.size }⟩⟩
      case round =>
        obtain ⟨hbl, hst⟩ := hrel
        have hwl := Nat.le_trans hbw3.size hbl.size
        rcases hst with ⟨hg, rfl, A', c', rs, rfl, hgd⟩ | ⟨hg, rfl, A', c', rs, rfl, hgd⟩
        · have HG := Lib.hid hg; clear hg
          have hi := hgd.pin (HEB.out 0 (by omega)) (HPB.out 0 (by omega))
          have HM1 := Lib.hid (HMUL.out 0 0 (by omega) wr wr.heap.size (Nat.le_refl _) A' A' c' c' rs rs hi hi hgd.cf hgd.cf)
          clear hgd hi
          go_wp2_with fail
          refine HM1.out.mono ?_
          rintro e w4 ⟨A4, c4, r4, rfl, hg4, hb4⟩
          have hi4 := hg4.pin (HEB.out 0 (by omega)) (HPB.out 0 (by omega))
          have hi3 := HP3.out.below (hbl.trans (hb4.mono hbl.size))
          have HM2 := Lib.hid (HMUL.out 0 1 (by omega) w4 w4.heap.size (Nat.le_refl _) A4 A3 c4 c3 r4 p3 hi4 (hi3.more (Nat.le_trans hbl.size hb4.size)) hg4.cf HK3.out)
          clear hi4 hi3 hg4 HM1
          go_wp2_with fail
          refine HM2.out.mono ?_
          rintro e w5 ⟨A5, c5, r5, rfl, hg5, hb5⟩
          have hg5' : PGood w5 w.heap.size (.slice A5 r5.length c5) r5 (cf (powL P 1)) (N ^ 1) (((1 : Nat) : Int) * E) (M ^ 1) := { hg5 with own := hg5.own.mono (Nat.le_trans hwl hb4.size) }
          have hb5' := (hbl.trans (hb4.mono hbl.size)).trans (hb5.mono (Nat.le_trans hbl.size hb4.size))
          clear hg5
          go_wp2_with fail
          go_roundg 0
          case rel => exact ⟨hb5', .inr (⟨rfl, rfl, A5, c5, r5, rfl, hg5'⟩)⟩
          case measure => have := HG.out; omega
        · clear hg
          have HGD := Lib.hid hgd
          clear hgd
          go_wp2_with fail
          go_ret
          exact ⟨A', c', rs, rfl, HGD.out, hbw3.trans (hbl.mono hbw3.size)⟩
set_option maxHeartbeats 4000000 in
set_option maxRecDepth 100000 in
theorem Pow_n2 (A : Option Addr) (c B N : Nat) (E : Int) (M : Nat) (ps : List PT) (w : World) (hB : B ≤ w.heap.size) (h : PIn w B A ps N E M) (hN0 : 0 < N) (hM0 : 0 < M) (hN : N ^ 2 ≤ 50000) (hE0 : 0 ≤ E) (hE : E ≤ 1000) (hM : M ^ 2 < pw 47) :
    Calls Tryz.prog 16 #[.slice A ps.length c, .int .i64 2] w (PRes (cf (powL (vF (ps.map PT.tm)) 2)) (N ^ 2) (((2 : Nat) : Int) * E) (M ^ 2) w) := by
  have hN1 : N ≤ 50000 := Nat.le_trans (Nat.le_trans (Nat.le_of_eq (Nat.pow_one N).symm) (Nat.pow_le_pow_right hN0 (show 1 ≤ 2 by omega))) hN
  have hM1 : M < pw 47 := Nat.lt_of_le_of_lt (Nat.le_trans (Nat.le_of_eq (Nat.pow_one M).symm) (Nat.pow_le_pow_right hM0 (show 1 ≤ 2 by omega))) hM
  have hMB : M < Big := Nat.lt_trans hM1 (pw_lt (show 47 < 600 by decide))
  have ho := IOf_any 1 (by omega) (by omega) w
  unfold IntRes at ho
  have hone : ival (decide ((1 : Int) < 0)) (dig (Int.natAbs 1)) = 1 := ival_dig 1
  have hcn := fun (W : World) (A3 : Option Addr) (c3 : Nat) (hb : NatB W A3 (dig (Int.natAbs 1))) (hc : (dig (Int.natAbs 1)).length ≤ c3) => Const_any (decide ((1 : Int) < 0)) A3 c3 W.heap.size (dig (Int.natAbs 1)) W (Nat.le_refl _) (natB_nin hb hc) (Nat.le_trans (dig_len_pw (k := 1) (show Int.natAbs 1 < pw 1 by decide)) (by omega))
  rw [hone] at hcn
  have HNM := Lib.hid (fun (W : World) (hW : Below w.heap.size w W) => Normal_poly A c B N E M ps W (Nat.le_trans hB hW.size) (h.below (hW.mono hB)) (by omega) hMB)
  have HMUL := Lib.hid (SMul_pow (vF (ps.map PT.tm)) (vF_vl _) N M 2 E hN0 hM0 hN hE0 hE (by omega) hM)
  have HP1 := Lib.hid (fun m => show cf (ps.map PT.tm) m = cf (powL (vF (ps.map PT.tm)) 1) m by rw [powL_one, cf_vF])
  have HPB := Lib.hid (fun (r : Nat) (hr : r ≤ 2) => Nat.lt_trans (Nat.lt_of_le_of_lt (Nat.pow_le_pow_right hM0 hr) hM) (pw_lt (show 47 < 600 by decide)))
  have HEB := Lib.hid (fun (r : Nat) (hr : r ≤ 2) => show (r : Int) * E ≤ 9223372036854775807 by
    have := Int.mul_le_mul (show (r : Int) ≤ 1000 by omega) hE hE0 (by omega)
    omega)
  generalize hd : dig (Int.natAbs 1) = d1 at *
  generalize hn : decide ((1 : Int) < 0) = n1 at *
  have HO := Lib.hid ho; have HCN := Lib.hid hcn
  have HE := Lib.hid (And.intro hE0 hE)
  clear ho hcn hd hn hone h hN hM hM1 hE hE0 hN1
  generalize vF (ps.map PT.tm) = P at *
  generalize cf (ps.map PT.tm) = F at *
  go_enter Tryz.func16, Tryz.ntmps16
  go_wp2_with fail
  refine HO.out.mono ?_
  rintro e w1 ⟨A1, c1, rfl, h1, h2, hb1⟩
  go_wp2_with fail
  refine (HCN.out w1 A1 c1 h2 h1).mono ?_
  rintro e w2 ⟨A2, c2, o2, rfl, hg2, hb2⟩
  have HG2 := Lib.hid hg2
  clear hg2
  have hbw2 := hb1.trans (hb2.mono hb1.size)
  go_wp2_with fail
  refine (HNM.out _ hbw2).mono ?_
  rintro e w3 ⟨A3, c3, p3, rfl, hg3, hb3⟩
  have HG3 := Lib.hid hg3
  have HG2' := Lib.hid (HG2.out.old hb3)
  have hbw3 := hbw2.trans (hb3.mono hbw2.size)
  clear hg3 HNM HCN HO HG2
  have hp3 := HG3.out.pin (by have := HE.out.2; omega) hMB
  have HP3 := Lib.hid (show PIn w3 w3.heap.size A3 p3 (N ^ 1) (((1 : Nat) : Int) * E) (M ^ 1) by
    rw [Nat.pow_one, Nat.pow_one, Int.natCast_one, Int.one_mul]; exact hp3)
  have HK3 := Lib.hid (fun m => (HG3.out.cf m).trans (HP1.out m))
  clear hp3
  go_wp2_with fail
  go_loopg [6] 1 (fun gn hx wr => w3 = wr ∧ ((gn = 1 ∧ hx = .int .i64 1) ∨ (gn = 0 ∧ hx = .int .i64 2)))
  case atStart => exact ⟨rfl, .inl ⟨rfl, rfl⟩⟩
  case round =>
    obtain ⟨rfl, hst⟩ := hrel
    rcases hst with ⟨hg, rfl⟩ | ⟨hg, rfl⟩
    · have HG := Lib.hid hg; clear hg
      go_wp2_with fail
      go_roundg 0
      case rel => exact ⟨rfl, .inr (⟨rfl, rfl⟩)⟩
      case measure => have := HG.out; omega
    · clear hg
      go_wp2_with fail
      go_loopg [5, 7] 2 (fun gn rv bt wr => Below w3.heap.size w3 wr ∧ ((gn = 2 ∧ bt = .int .i64 2 ∧ ∃ A' c' rs, rv = .slice A' rs.length c' ∧ PGood wr w.heap.size (.slice A' rs.length c') rs (cf (powL P 0)) (N ^ 0) (((0 : Nat) : Int) * E) (M ^ 0)) ∨ (gn = 1 ∧ bt = .int .i64 1 ∧ ∃ A' c' rs, rv = .slice A' rs.length c' ∧ PGood wr w.heap.size (.slice A' rs.length c') rs (cf (powL P 1)) (N ^ 1) (((1 : Nat) : Int) * E) (M ^ 1)) ∨ (gn = 0 ∧ bt = .int .i64 0 ∧ ∃ A' c' rs, rv = .slice A' rs.length c' ∧ PGood wr w.heap.size (.slice A' rs.length c') rs (cf (powL P 2)) (N ^ 2) (((2 : Nat) : Int) * E) (M ^ 2))))
      case atStart => exact ⟨Below.refl _ _, .inl ⟨rfl, rfl, A2, c2, o2, rfl, by rw [Nat.pow_zero, Nat.pow_zero, Int.natCast_zero, Int.zero_mul]; exact { HG2'.out with own := HG2'.out.own.mono hb1.size }⟩⟩
      case round =>
        obtain ⟨hbl, hst⟩ := hrel
        have hwl := Nat.le_trans hbw3.size hbl.size
        rcases hst with ⟨hg, rfl, A', c', rs, rfl, hgd⟩ | ⟨hg, rfl, A', c', rs, rfl, hgd⟩ | ⟨hg, rfl, A', c', rs, rfl, hgd⟩
        · have HG := Lib.hid hg; clear hg
          have hi := hgd.pin (HEB.out 0 (by omega)) (HPB.out 0 (by omega))
          have HM1 := Lib.hid (HMUL.out 0 0 (by omega) wr wr.heap.size (Nat.le_refl _) A' A' c' c' rs rs hi hi hgd.cf hgd.cf)
          clear hgd hi
          go_wp2_with fail
          refine HM1.out.mono ?_
          rintro e w4 ⟨A4, c4, r4, rfl, hg4, hb4⟩
          have hi4 := hg4.pin (HEB.out 0 (by omega)) (HPB.out 0 (by omega))
          have hi3 := HP3.out.below (hbl.trans (hb4.mono hbl.size))
          have HM2 := Lib.hid (HMUL.out 0 1 (by omega) w4 w4.heap.size (Nat.le_refl _) A4 A3 c4 c3 r4 p3 hi4 (hi3.more (Nat.le_trans hbl.size hb4.size)) hg4.cf HK3.out)
          clear hi4 hi3 hg4 HM1
          go_wp2_with fail
          refine HM2.out.mono ?_
          rintro e w5 ⟨A5, c5, r5, rfl, hg5, hb5⟩
          have hg5' : PGood w5 w.heap.size (.slice A5 r5.length c5) r5 (cf (powL P 1)) (N ^ 1) (((1 : Nat) : Int) * E) (M ^ 1) := { hg5 with own := hg5.own.mono (Nat.le_trans hwl hb4.size) }
          have hb5' := (hbl.trans (hb4.mono hbl.size)).trans (hb5.mono (Nat.le_trans hbl.size hb4.size))
          clear hg5
          go_wp2_with fail
          go_roundg 1
          case rel => exact ⟨hb5', .inr (.inl ⟨rfl, rfl, A5, c5, r5, rfl, hg5'⟩)⟩
          case measure => have := HG.out; omega
        · have HG := Lib.hid hg; clear hg
          have hi := hgd.pin (HEB.out 1 (by omega)) (HPB.out 1 (by omega))
          have HM1 := Lib.hid (HMUL.out 1 1 (by omega) wr wr.heap.size (Nat.le_refl _) A' A' c' c' rs rs hi hi hgd.cf hgd.cf)
          clear hgd hi
          go_wp2_with fail
          refine HM1.out.mono ?_
          rintro e w4 ⟨A4, c4, r4, rfl, hg4, hb4⟩
          have hg4' : PGood w4 w.heap.size (.slice A4 r4.length c4) r4 (cf (powL P 2)) (N ^ 2) (((2 : Nat) : Int) * E) (M ^ 2) := { hg4 with own := hg4.own.mono hwl }
          have hb4' := hbl.trans (hb4.mono hbl.size)
          clear hg4
          go_wp2_with fail
          go_roundg 0
          case rel => exact ⟨hb4', .inr (.inr (⟨rfl, rfl, A4, c4, r4, rfl, hg4'⟩))⟩
          case measure => have := HG.out; omega
        · clear hg
          have HGD := Lib.hid hgd
          clear hgd
          go_wp2_with fail
          go_ret
          exact ⟨A', c', rs, rfl, HGD.out, hbw3.trans (hbl.mono hbw3.size)⟩
set_option maxHeartbeats 4000000 in
set_option maxRecDepth 100000 in
theorem Pow_n3 (A : Option Addr) (c B N : Nat) (E : Int) (M : Nat) (ps : List PT) (w : World) (hB : B ≤ w.heap.size) (h : PIn w B A ps N E M) (hN0 : 0 < N) (hM0 : 0 < M) (hN : N ^ 3 ≤ 50000) (hE0 : 0 ≤ E) (hE : E ≤ 1000) (hM : M ^ 3 < pw 47) :
    Calls Tryz.prog 16 #[.slice A ps.length c, .int .i64 3] w (PRes (cf (powL (vF (ps.map PT.tm)) 3)) (N ^ 3) (((3 : Nat) : Int) * E) (M ^ 3) w) := by
  have hN1 : N ≤ 50000 := Nat.le_trans (Nat.le_trans (Nat.le_of_eq (Nat.pow_one N).symm) (Nat.pow_le_pow_right hN0 (show 1 ≤ 3 by omega))) hN
  have hM1 : M < pw 47 := Nat.lt_of_le_of_lt (Nat.le_trans (Nat.le_of_eq (Nat.pow_one M).symm) (Nat.pow_le_pow_right hM0 (show 1 ≤ 3 by omega))) hM
  have hMB : M < Big := Nat.lt_trans hM1 (pw_lt (show 47 < 600 by decide))
  have ho := IOf_any 1 (by omega) (by omega) w
  unfold IntRes at ho
  have hone : ival (decide ((1 : Int) < 0)) (dig (Int.natAbs 1)) = 1 := ival_dig 1
  have hcn := fun (W : World) (A3 : Option Addr) (c3 : Nat) (hb : NatB W A3 (dig (Int.natAbs 1))) (hc : (dig (Int.natAbs 1)).length ≤ c3) => Const_any (decide ((1 : Int) < 0)) A3 c3 W.heap.size (dig (Int.natAbs 1)) W (Nat.le_refl _) (natB_nin hb hc) (Nat.le_trans (dig_len_pw (k := 1) (show Int.natAbs 1 < pw 1 by decide)) (by omega))
  rw [hone] at hcn
  have HNM := Lib.hid (fun (W : World) (hW : Below w.heap.size w W) => Normal_poly A c B N E M ps W (Nat.le_trans hB hW.size) (h.below (hW.mono hB)) (by omega) hMB)
  have HMUL := Lib.hid (SMul_pow (vF (ps.map PT.tm)) (vF_vl _) N M 3 E hN0 hM0 hN hE0 hE (by omega) hM)
  have HP1 := Lib.hid (fun m => show cf (ps.map PT.tm) m = cf (powL (vF (ps.map PT.tm)) 1) m by rw [powL_one, cf_vF])
  have HPB := Lib.hid (fun (r : Nat) (hr : r ≤ 3) => Nat.lt_trans (Nat.lt_of_le_of_lt (Nat.pow_le_pow_right hM0 hr) hM) (pw_lt (show 47 < 600 by decide)))
  have HEB := Lib.hid (fun (r : Nat) (hr : r ≤ 3) => show (r : Int) * E ≤ 9223372036854775807 by
    have := Int.mul_le_mul (show (r : Int) ≤ 1000 by omega) hE hE0 (by omega)
    omega)
  generalize hd : dig (Int.natAbs 1) = d1 at *
  generalize hn : decide ((1 : Int) < 0) = n1 at *
  have HO := Lib.hid ho; have HCN := Lib.hid hcn
  have HE := Lib.hid (And.intro hE0 hE)
  clear ho hcn hd hn hone h hN hM hM1 hE hE0 hN1
  generalize vF (ps.map PT.tm) = P at *
  generalize cf (ps.map PT.tm) = F at *
  go_enter Tryz.func16, Tryz.ntmps16
  go_wp2_with fail
  refine HO.out.mono ?_
  rintro e w1 ⟨A1, c1, rfl, h1, h2, hb1⟩
  go_wp2_with fail
  refine (HCN.out w1 A1 c1 h2 h1).mono ?_
  rintro e w2 ⟨A2, c2, o2, rfl, hg2, hb2⟩
  have HG2 := Lib.hid hg2
  clear hg2
  have hbw2 := hb1.trans (hb2.mono hb1.size)
  go_wp2_with fail
  refine (HNM.out _ hbw2).mono ?_
  rintro e w3 ⟨A3, c3, p3, rfl, hg3, hb3⟩
  have HG3 := Lib.hid hg3
  have HG2' := Lib.hid (HG2.out.old hb3)
  have hbw3 := hbw2.trans (hb3.mono hbw2.size)
  clear hg3 HNM HCN HO HG2
  have hp3 := HG3.out.pin (by have := HE.out.2; omega) hMB
  have HP3 := Lib.hid (show PIn w3 w3.heap.size A3 p3 (N ^ 1) (((1 : Nat) : Int) * E) (M ^ 1) by
    rw [Nat.pow_one, Nat.pow_one, Int.natCast_one, Int.one_mul]; exact hp3)
  have HK3 := Lib.hid (fun m => (HG3.out.cf m).trans (HP1.out m))
  clear hp3
  go_wp2_with fail
  go_loopg [6] 1 (fun gn hx wr => w3 = wr ∧ ((gn = 1 ∧ hx = .int .i64 1) ∨ (gn = 0 ∧ hx = .int .i64 2)))
  case atStart => exact ⟨rfl, .inl ⟨rfl, rfl⟩⟩
  case round =>
    obtain ⟨rfl, hst⟩ := hrel
    rcases hst with ⟨hg, rfl⟩ | ⟨hg, rfl⟩
    · have HG := Lib.hid hg; clear hg
      go_wp2_with fail
      go_roundg 0
      case rel => exact ⟨rfl, .inr (⟨rfl, rfl⟩)⟩
      case measure => have := HG.out; omega
    · clear hg
      go_wp2_with fail
      go_loopg [5, 7] 2 (fun gn rv bt wr => Below w3.heap.size w3 wr ∧ ((gn = 2 ∧ bt = .int .i64 2 ∧ ∃ A' c' rs, rv = .slice A' rs.length c' ∧ PGood wr w.heap.size (.slice A' rs.length c') rs (cf (powL P 0)) (N ^ 0) (((0 : Nat) : Int) * E) (M ^ 0)) ∨ (gn = 1 ∧ bt = .int .i64 1 ∧ ∃ A' c' rs, rv = .slice A' rs.length c' ∧ PGood wr w.heap.size (.slice A' rs.length c') rs (cf (powL P 1)) (N ^ 1) (((1 : Nat) : Int) * E) (M ^ 1)) ∨ (gn = 0 ∧ bt = .int .i64 0 ∧ ∃ A' c' rs, rv = .slice A' rs.length c' ∧ PGood wr w.heap.size (.slice A' rs.length c') rs (cf (powL P 3)) (N ^ 3) (((3 : Nat) : Int) * E) (M ^ 3))))
      case atStart => exact ⟨Below.refl _ _, .inl ⟨rfl, rfl, A2, c2, o2, rfl, by rw [Nat.pow_zero, Nat.pow_zero, Int.natCast_zero, Int.zero_mul]; exact { HG2'.out with own := HG2'.out.own.mono hb1.size }⟩⟩
      case round =>
        obtain ⟨hbl, hst⟩ := hrel
        have hwl := Nat.le_trans hbw3.size hbl.size
        rcases hst with ⟨hg, rfl, A', c', rs, rfl, hgd⟩ | ⟨hg, rfl, A', c', rs, rfl, hgd⟩ | ⟨hg, rfl, A', c', rs, rfl, hgd⟩
        · have HG := Lib.hid hg; clear hg
          have hi := hgd.pin (HEB.out 0 (by omega)) (HPB.out 0 (by omega))
          have HM1 := Lib.hid (HMUL.out 0 0 (by omega) wr wr.heap.size (Nat.le_refl _) A' A' c' c' rs rs hi hi hgd.cf hgd.cf)
          clear hgd hi
          go_wp2_with fail
          refine HM1.out.mono ?_
          rintro e w4 ⟨A4, c4, r4, rfl, hg4, hb4⟩
          have hi4 := hg4.pin (HEB.out 0 (by omega)) (HPB.out 0 (by omega))
          have hi3 := HP3.out.below (hbl.trans (hb4.mono hbl.size))
          have HM2 := Lib.hid (HMUL.out 0 1 (by omega) w4 w4.heap.size (Nat.le_refl _) A4 A3 c4 c3 r4 p3 hi4 (hi3.more (Nat.le_trans hbl.size hb4.size)) hg4.cf HK3.out)
          clear hi4 hi3 hg4 HM1
          go_wp2_with fail
          refine HM2.out.mono ?_
          rintro e w5 ⟨A5, c5, r5, rfl, hg5, hb5⟩
          have hg5' : PGood w5 w.heap.size (.slice A5 r5.length c5) r5 (cf (powL P 1)) (N ^ 1) (((1 : Nat) : Int) * E) (M ^ 1) := { hg5 with own := hg5.own.mono (Nat.le_trans hwl hb4.size) }
          have hb5' := (hbl.trans (hb4.mono hbl.size)).trans (hb5.mono (Nat.le_trans hbl.size hb4.size))
          clear hg5
          go_wp2_with fail
          go_roundg 1
          case rel => exact ⟨hb5', .inr (.inl ⟨rfl, rfl, A5, c5, r5, rfl, hg5'⟩)⟩
          case measure => have := HG.out; omega
        · have HG := Lib.hid hg; clear hg
          have hi := hgd.pin (HEB.out 1 (by omega)) (HPB.out 1 (by omega))
          have HM1 := Lib.hid (HMUL.out 1 1 (by omega) wr wr.heap.size (Nat.le_refl _) A' A' c' c' rs rs hi hi hgd.cf hgd.cf)
          clear hgd hi
          go_wp2_with fail
          refine HM1.out.mono ?_
          rintro e w4 ⟨A4, c4, r4, rfl, hg4, hb4⟩
          have hi4 := hg4.pin (HEB.out 2 (by omega)) (HPB.out 2 (by omega))
          have hi3 := HP3.out.below (hbl.trans (hb4.mono hbl.size))
          have HM2 := Lib.hid (HMUL.out 2 1 (by omega) w4 w4.heap.size (Nat.le_refl _) A4 A3 c4 c3 r4 p3 hi4 (hi3.more (Nat.le_trans hbl.size hb4.size)) hg4.cf HK3.out)
          clear hi4 hi3 hg4 HM1
          go_wp2_with fail
          refine HM2.out.mono ?_
          rintro e w5 ⟨A5, c5, r5, rfl, hg5, hb5⟩
          have hg5' : PGood w5 w.heap.size (.slice A5 r5.length c5) r5 (cf (powL P 3)) (N ^ 3) (((3 : Nat) : Int) * E) (M ^ 3) := { hg5 with own := hg5.own.mono (Nat.le_trans hwl hb4.size) }
          have hb5' := (hbl.trans (hb4.mono hbl.size)).trans (hb5.mono (Nat.le_trans hbl.size hb4.size))
          clear hg5
          go_wp2_with fail
          go_roundg 0
          case rel => exact ⟨hb5', .inr (.inr (⟨rfl, rfl, A5, c5, r5, rfl, hg5'⟩))⟩
          case measure => have := HG.out; omega
        · clear hg
          have HGD := Lib.hid hgd
          clear hgd
          go_wp2_with fail
          go_ret
          exact ⟨A', c', rs, rfl, HGD.out, hbw3.trans (hbl.mono hbw3.size)⟩
set_option maxHeartbeats 4000000 in
set_option maxRecDepth 100000 in
theorem Pow_n4 (A : Option Addr) (c B N : Nat) (E : Int) (M : Nat) (ps : List PT) (w : World) (hB : B ≤ w.heap.size) (h : PIn w B A ps N E M) (hN0 : 0 < N) (hM0 : 0 < M) (hN : N ^ 4 ≤ 50000) (hE0 : 0 ≤ E) (hE : E ≤ 1000) (hM : M ^ 4 < pw 47) :
    Calls Tryz.prog 16 #[.slice A ps.length c, .int .i64 4] w (PRes (cf (powL (vF (ps.map PT.tm)) 4)) (N ^ 4) (((4 : Nat) : Int) * E) (M ^ 4) w) := by
  have hN1 : N ≤ 50000 := Nat.le_trans (Nat.le_trans (Nat.le_of_eq (Nat.pow_one N).symm) (Nat.pow_le_pow_right hN0 (show 1 ≤ 4 by omega))) hN
  have hM1 : M < pw 47 := Nat.lt_of_le_of_lt (Nat.le_trans (Nat.le_of_eq (Nat.pow_one M).symm) (Nat.pow_le_pow_right hM0 (show 1 ≤ 4 by omega))) hM
  have hMB : M < Big := Nat.lt_trans hM1 (pw_lt (show 47 < 600 by decide))
  have ho := IOf_any 1 (by omega) (by omega) w
  unfold IntRes at ho
  have hone : ival (decide ((1 : Int) < 0)) (dig (Int.natAbs 1)) = 1 := ival_dig 1
  have hcn := fun (W : World) (A3 : Option Addr) (c3 : Nat) (hb : NatB W A3 (dig (Int.natAbs 1))) (hc : (dig (Int.natAbs 1)).length ≤ c3) => Const_any (decide ((1 : Int) < 0)) A3 c3 W.heap.size (dig (Int.natAbs 1)) W (Nat.le_refl _) (natB_nin hb hc) (Nat.le_trans (dig_len_pw (k := 1) (show Int.natAbs 1 < pw 1 by decide)) (by omega))
  rw [hone] at hcn
  have HNM := Lib.hid (fun (W : World) (hW : Below w.heap.size w W) => Normal_poly A c B N E M ps W (Nat.le_trans hB hW.size) (h.below (hW.mono hB)) (by omega) hMB)
  have HMUL := Lib.hid (SMul_pow (vF (ps.map PT.tm)) (vF_vl _) N M 4 E hN0 hM0 hN hE0 hE (by omega) hM)
  have HP1 := Lib.hid (fun m => show cf (ps.map PT.tm) m = cf (powL (vF (ps.map PT.tm)) 1) m by rw [powL_one, cf_vF])
  have HPB := Lib.hid (fun (r : Nat) (hr : r ≤ 4) => Nat.lt_trans (Nat.lt_of_le_of_lt (Nat.pow_le_pow_right hM0 hr) hM) (pw_lt (show 47 < 600 by decide)))
  have HEB := Lib.hid (fun (r : Nat) (hr : r ≤ 4) => show (r : Int) * E ≤ 9223372036854775807 by
    have := Int.mul_le_mul (show (r : Int) ≤ 1000 by omega) hE hE0 (by omega)
    omega)
  generalize hd : dig (Int.natAbs 1) = d1 at *
  generalize hn : decide ((1 : Int) < 0) = n1 at *
  have HO := Lib.hid ho; have HCN := Lib.hid hcn
  have HE := Lib.hid (And.intro hE0 hE)
  clear ho hcn hd hn hone h hN hM hM1 hE hE0 hN1
  generalize vF (ps.map PT.tm) = P at *
  generalize cf (ps.map PT.tm) = F at *
  go_enter Tryz.func16, Tryz.ntmps16
  go_wp2_with fail
  refine HO.out.mono ?_
  rintro e w1 ⟨A1, c1, rfl, h1, h2, hb1⟩
  go_wp2_with fail
  refine (HCN.out w1 A1 c1 h2 h1).mono ?_
  rintro e w2 ⟨A2, c2, o2, rfl, hg2, hb2⟩
  have HG2 := Lib.hid hg2
  clear hg2
  have hbw2 := hb1.trans (hb2.mono hb1.size)
  go_wp2_with fail
  refine (HNM.out _ hbw2).mono ?_
  rintro e w3 ⟨A3, c3, p3, rfl, hg3, hb3⟩
  have HG3 := Lib.hid hg3
  have HG2' := Lib.hid (HG2.out.old hb3)
  have hbw3 := hbw2.trans (hb3.mono hbw2.size)
  clear hg3 HNM HCN HO HG2
  have hp3 := HG3.out.pin (by have := HE.out.2; omega) hMB
  have HP3 := Lib.hid (show PIn w3 w3.heap.size A3 p3 (N ^ 1) (((1 : Nat) : Int) * E) (M ^ 1) by
    rw [Nat.pow_one, Nat.pow_one, Int.natCast_one, Int.one_mul]; exact hp3)
  have HK3 := Lib.hid (fun m => (HG3.out.cf m).trans (HP1.out m))
  clear hp3
  go_wp2_with fail
  go_loopg [6] 2 (fun gn hx wr => w3 = wr ∧ ((gn = 2 ∧ hx = .int .i64 1) ∨ (gn = 1 ∧ hx = .int .i64 2) ∨ (gn = 0 ∧ hx = .int .i64 4)))
  case atStart => exact ⟨rfl, .inl ⟨rfl, rfl⟩⟩
  case round =>
    obtain ⟨rfl, hst⟩ := hrel
    rcases hst with ⟨hg, rfl⟩ | ⟨hg, rfl⟩ | ⟨hg, rfl⟩
    · have HG := Lib.hid hg; clear hg
      go_wp2_with fail
      go_roundg 1
      case rel => exact ⟨rfl, .inr (.inl ⟨rfl, rfl⟩)⟩
      case measure => have := HG.out; omega
    · have HG := Lib.hid hg; clear hg
      go_wp2_with fail
      go_roundg 0
      case rel => exact ⟨rfl, .inr (.inr (⟨rfl, rfl⟩))⟩
      case measure => have := HG.out; omega
    · clear hg
      go_wp2_with fail
      go_loopg [5, 7] 3 (fun gn rv bt wr => Below w3.heap.size w3 wr ∧ ((gn = 3 ∧ bt = .int .i64 4 ∧ ∃ A' c' rs, rv = .slice A' rs.length c' ∧ PGood wr w.heap.size (.slice A' rs.length c') rs (cf (powL P 0)) (N ^ 0) (((0 : Nat) : Int) * E) (M ^ 0)) ∨ (gn = 2 ∧ bt = .int .i64 2 ∧ ∃ A' c' rs, rv = .slice A' rs.length c' ∧ PGood wr w.heap.size (.slice A' rs.length c') rs (cf (powL P 1)) (N ^ 1) (((1 : Nat) : Int) * E) (M ^ 1)) ∨ (gn = 1 ∧ bt = .int .i64 1 ∧ ∃ A' c' rs, rv = .slice A' rs.length c' ∧ PGood wr w.heap.size (.slice A' rs.length c') rs (cf (powL P 2)) (N ^ 2) (((2 : Nat) : Int) * E) (M ^ 2)) ∨ (gn = 0 ∧ bt = .int .i64 0 ∧ ∃ A' c' rs, rv = .slice A' rs.length c' ∧ PGood wr w.heap.size (.slice A' rs.length c') rs (cf (powL P 4)) (N ^ 4) (((4 : Nat) : Int) * E) (M ^ 4))))
      case atStart => exact ⟨Below.refl _ _, .inl ⟨rfl, rfl, A2, c2, o2, rfl, by rw [Nat.pow_zero, Nat.pow_zero, Int.natCast_zero, Int.zero_mul]; exact { HG2'.out with own := HG2'.out.own.mono hb1.size }⟩⟩
      case round =>
        obtain ⟨hbl, hst⟩ := hrel
        have hwl := Nat.le_trans hbw3.size hbl.size
        rcases hst with ⟨hg, rfl, A', c', rs, rfl, hgd⟩ | ⟨hg, rfl, A', c', rs, rfl, hgd⟩ | ⟨hg, rfl, A', c', rs, rfl, hgd⟩ | ⟨hg, rfl, A', c', rs, rfl, hgd⟩
        · have HG := Lib.hid hg; clear hg
          have hi := hgd.pin (HEB.out 0 (by omega)) (HPB.out 0 (by omega))
          have HM1 := Lib.hid (HMUL.out 0 0 (by omega) wr wr.heap.size (Nat.le_refl _) A' A' c' c' rs rs hi hi hgd.cf hgd.cf)
          clear hgd hi
          go_wp2_with fail
          refine HM1.out.mono ?_
          rintro e w4 ⟨A4, c4, r4, rfl, hg4, hb4⟩
          have hi4 := hg4.pin (HEB.out 0 (by omega)) (HPB.out 0 (by omega))
          have hi3 := HP3.out.below (hbl.trans (hb4.mono hbl.size))
          have HM2 := Lib.hid (HMUL.out 0 1 (by omega) w4 w4.heap.size (Nat.le_refl _) A4 A3 c4 c3 r4 p3 hi4 (hi3.more (Nat.le_trans hbl.size hb4.size)) hg4.cf HK3.out)
          clear hi4 hi3 hg4 HM1
          go_wp2_with fail
          refine HM2.out.mono ?_
          rintro e w5 ⟨A5, c5, r5, rfl, hg5, hb5⟩
          have hg5' : PGood w5 w.heap.size (.slice A5 r5.length c5) r5 (cf (powL P 1)) (N ^ 1) (((1 : Nat) : Int) * E) (M ^ 1) := { hg5 with own := hg5.own.mono (Nat.le_trans hwl hb4.size) }
          have hb5' := (hbl.trans (hb4.mono hbl.size)).trans (hb5.mono (Nat.le_trans hbl.size hb4.size))
          clear hg5
          go_wp2_with fail
          go_roundg 2
          case rel => exact ⟨hb5', .inr (.inl ⟨rfl, rfl, A5, c5, r5, rfl, hg5'⟩)⟩
          case measure => have := HG.out; omega
        · have HG := Lib.hid hg; clear hg
          have hi := hgd.pin (HEB.out 1 (by omega)) (HPB.out 1 (by omega))
          have HM1 := Lib.hid (HMUL.out 1 1 (by omega) wr wr.heap.size (Nat.le_refl _) A' A' c' c' rs rs hi hi hgd.cf hgd.cf)
          clear hgd hi
          go_wp2_with fail
          refine HM1.out.mono ?_
          rintro e w4 ⟨A4, c4, r4, rfl, hg4, hb4⟩
          have hg4' : PGood w4 w.heap.size (.slice A4 r4.length c4) r4 (cf (powL P 2)) (N ^ 2) (((2 : Nat) : Int) * E) (M ^ 2) := { hg4 with own := hg4.own.mono hwl }
          have hb4' := hbl.trans (hb4.mono hbl.size)
          clear hg4
          go_wp2_with fail
          go_roundg 1
          case rel => exact ⟨hb4', .inr (.inr (.inl ⟨rfl, rfl, A4, c4, r4, rfl, hg4'⟩))⟩
          case measure => have := HG.out; omega
        · have HG := Lib.hid hg; clear hg
          have hi := hgd.pin (HEB.out 2 (by omega)) (HPB.out 2 (by omega))
          have HM1 := Lib.hid (HMUL.out 2 2 (by omega) wr wr.heap.size (Nat.le_refl _) A' A' c' c' rs rs hi hi hgd.cf hgd.cf)
          clear hgd hi
          go_wp2_with fail
          refine HM1.out.mono ?_
          rintro e w4 ⟨A4, c4, r4, rfl, hg4, hb4⟩
          have hg4' : PGood w4 w.heap.size (.slice A4 r4.length c4) r4 (cf (powL P 4)) (N ^ 4) (((4 : Nat) : Int) * E) (M ^ 4) := { hg4 with own := hg4.own.mono hwl }
          have hb4' := hbl.trans (hb4.mono hbl.size)
          clear hg4
          go_wp2_with fail
          go_roundg 0
          case rel => exact ⟨hb4', .inr (.inr (.inr (⟨rfl, rfl, A4, c4, r4, rfl, hg4'⟩)))⟩
          case measure => have := HG.out; omega
        · clear hg
          have HGD := Lib.hid hgd
          clear hgd
          go_wp2_with fail
          go_ret
          exact ⟨A', c', rs, rfl, HGD.out, hbw3.trans (hbl.mono hbw3.size)⟩
end Go.Proofs.YtpbapoanjkekmaaGreat
