/- Contract of rational.Normal. -/
import Derived.IntWalk
import Derived.Test.YtpbapoanjkekmaaGreatED
namespace Go.Proofs.YtpbapoanjkekmaaGreat
open Go.RowKit

/-- a rational number in lowest terms, in cells that the call may read -/
structure RIn (w : World) (B : Nat) (q : Rat) (A : Option Addr) (c : Nat) (D : Option Addr) (cd : Nat) : Prop where
  nm : NatIn w B A c (dig q.num.natAbs)
  dn : NatIn w B D cd (dig q.den)
theorem RIn.below {w w' : World} {B : Nat} {q : Rat} {A D : Option Addr} {c cd : Nat} (h : RIn w B q A c D cd) (hb : Below B w w') : RIn w' B q A c D cd := ⟨h.nm.below hb, h.dn.below hb⟩
theorem RIn.more {w : World} {B B' : Nat} {q : Rat} {A D : Option Addr} {c cd : Nat} (h : RIn w B q A c D cd) (hB : B ≤ B') : RIn w B' q A c D cd := ⟨h.nm.more hB, h.dn.more hB⟩
theorem RIn.made {w : World} {q : Rat} {A D : Option Addr} {c cd : Nat} (h1 : (dig q.num.natAbs).length ≤ c) (h2 : (dig q.den).length ≤ cd) (n1 : NatB w A (dig q.num.natAbs)) (n2 : NatB w D (dig q.den)) : RIn w w.heap.size q A c D cd := ⟨natB_nin n1 h1, natB_nin n2 h2⟩
abbrev rvl (q : Rat) (A : Option Addr) (c : Nat) (D : Option Addr) (cd : Nat) : Value := .agg #[.bool (decide (q.num < 0)), .slice A (dig q.num.natAbs).length c, .slice D (dig q.den).length cd]
theorem r_self (q : Rat) : mkRat (ival (decide (q.num < 0)) (dig q.num.natAbs)) (val (dig q.den)) = q := by rw [ival_dig, val_dig, Rat.mkRat_self]
/-- numerator and denominator of at most L digits -/
def RL (q : Rat) (L : Nat) : Prop := q.num.natAbs < 4294967296 ^ L ∧ q.den < 4294967296 ^ L
theorem RL.mono {q : Rat} {L L' : Nat} (h : RL q L) (hl : L ≤ L') : RL q L' := ⟨Nat.lt_of_lt_of_le h.1 (Nat.pow_le_pow_right (by decide) hl), Nat.lt_of_lt_of_le h.2 (Nat.pow_le_pow_right (by decide) hl)⟩
theorem RL.n {q : Rat} {L : Nat} (h : RL q L) : (dig q.num.natAbs).length ≤ L := dig_len_lt h.1
theorem RL.d {q : Rat} {L : Nat} (h : RL q L) : (dig q.den).length ≤ L := dig_len_lt h.2
theorem mkRat_le (n : Int) (d : Nat) : (mkRat n d).num.natAbs ≤ n.natAbs ∧ (mkRat n d).den ≤ max d 1 := by
  rcases Nat.eq_zero_or_pos d with rfl | hd
  · rw [Rat.num_mkRat, Rat.den_mkRat]
    simp
  · obtain ⟨k, hk, h1, h2⟩ := mkRat_scale n (Nat.ne_of_gt hd)
    have hkp : 0 < k := Nat.pos_of_ne_zero hk
    constructor
    · conv => rhs; rw [h1]
      rw [Int.natAbs_mul, Int.natAbs_natCast]
      exact Nat.le_mul_of_pos_right _ hkp
    · refine Nat.le_trans ?_ (Nat.le_max_left d 1)
      conv => rhs; rw [h2]
      exact Nat.le_mul_of_pos_right _ hkp
theorem mkRat_RL {ng : Bool} {ds es : List Nat} {L : Nat} (h0 : 0 < L) (gd : Dig ds) (ge : Dig es) (hd : ds.length ≤ L) (he : es.length ≤ L) : RL (mkRat (ival ng ds) (val es)) L := by
  obtain ⟨h1, h2⟩ := mkRat_le (ival ng ds) (val es)
  rw [ival_abs] at h1
  have h3 := Nat.lt_of_lt_of_le (val_lt gd) (Nat.pow_le_pow_right (n := 4294967296) (by decide) hd)
  have h4 := Nat.lt_of_lt_of_le (val_lt ge) (Nat.pow_le_pow_right (n := 4294967296) (by decide) he)
  have h5 : 1 < 4294967296 ^ L := Nat.one_lt_pow (by omega) (by decide)
  refine ⟨Nat.lt_of_le_of_lt h1 h3, Nat.lt_of_le_of_lt h2 ?_⟩
  rcases Nat.le_total (val es) 1 with h | h
  · rw [Nat.max_eq_right h]; exact h5
  · rw [Nat.max_eq_left h]; exact h4
theorem RL.mul {q r : Rat} {L M : Nat} (h : RL q L) (k : RL r M) : RL (q * r) (L + M) := by
  have e := Rat.mkRat_mul_mkRat q.num r.num q.den r.den
  rw [Rat.mkRat_self, Rat.mkRat_self] at e
  obtain ⟨h1, h2⟩ := mkRat_le (q.num * r.num) (q.den * r.den)
  rw [e]
  rw [Int.natAbs_mul] at h1
  refine ⟨Nat.lt_of_le_of_lt h1 ?_, Nat.lt_of_le_of_lt h2 ?_⟩
  · rw [Nat.pow_add]; exact Nat.mul_lt_mul'' h.1 k.1
  · have h3 : q.den * r.den < 4294967296 ^ (L + M) := by rw [Nat.pow_add]; exact Nat.mul_lt_mul'' h.2 k.2
    have h4 : 0 < q.den * r.den := Nat.mul_pos q.den_pos r.den_pos
    rw [Nat.max_eq_left h4]; exact h3
theorem RL.add {q r : Rat} {L M : Nat} (h : RL q L) (k : RL r M) : RL (q + r) (L + M + 1) := by
  have e := Rat.mkRat_add_mkRat q.num r.num q.den_nz r.den_nz
  rw [Rat.mkRat_self, Rat.mkRat_self] at e
  obtain ⟨h1, h2⟩ := mkRat_le (q.num * r.den + r.num * q.den) (q.den * r.den)
  rw [e]
  have h3 : q.den * r.den < 4294967296 ^ (L + M) := by rw [Nat.pow_add]; exact Nat.mul_lt_mul'' h.2 k.2
  have h4 : 0 < q.den * r.den := Nat.mul_pos q.den_pos r.den_pos
  have h5 : q.num.natAbs * r.den < 4294967296 ^ (L + M) := by rw [Nat.pow_add]; exact Nat.mul_lt_mul'' h.1 k.2
  have h6 : r.num.natAbs * q.den < 4294967296 ^ (L + M) := by rw [Nat.add_comm L, Nat.pow_add]; exact Nat.mul_lt_mul'' k.1 h.2
  have h7 := Int.natAbs_add_le (q.num * (r.den : Int)) (r.num * (q.den : Int))
  rw [Int.natAbs_mul, Int.natAbs_mul, Int.natAbs_natCast, Int.natAbs_natCast] at h7
  refine ⟨Nat.lt_of_le_of_lt h1 ?_, Nat.lt_of_le_of_lt h2 ?_⟩
  · rw [Nat.pow_succ]; omega
  · rw [Nat.max_eq_left h4, Nat.pow_succ]; omega
theorem RL.pow {q : Rat} {L : Nat} (h : RL q L) : ∀ n, RL (q ^ (n + 1)) (L * (n + 1))
  | 0 => by rw [Rat.pow_succ, Rat.pow_zero, Rat.one_mul]; simpa using h
  | n + 1 => by rw [Rat.pow_succ, Nat.mul_succ]; exact (h.pow n).mul h
theorem RL.int {z : Int} {L : Nat} (h0 : 0 < L) (h : z.natAbs < 4294967296 ^ L) : RL (z : Rat) L := by
  unfold RL
  rw [Rat.num_intCast, Rat.den_intCast]
  exact ⟨h, Nat.one_lt_pow (by omega) (by decide)⟩
theorem RL.zero {L : Nat} (h0 : 0 < L) : RL 0 L := RL.int (z := 0) h0 (Nat.pow_pos (by decide))
theorem RMul_r (q r : Rat) (A : Option Addr) (c : Nat) (D : Option Addr) (cd : Nat) (A' : Option Addr) (c' : Nat) (D' : Option Addr) (cd' : Nat) (B : Nat) (w : World) (hB : B ≤ w.heap.size) (h : RIn w B q A c D cd) (h' : RIn w B r A' c' D' cd') {L M : Nat} (s : RL q L) (s' : RL r M) (hL : L ≤ 150000) (hM : M ≤ 150000) :
    Calls Tryz.prog 15 #[rvl q A c D cd, rvl r A' c' D' cd'] w (RatRes (q * r) w) := by
  have := RMul_big (decide (q.num < 0)) (decide (r.num < 0)) A c _ D cd _ A' c' _ D' cd' _ B w hB h.nm h.dn h'.nm h'.dn (Nat.le_trans s.n hL) (Nat.le_trans s.d hL) (Nat.le_trans s'.n hM) (Nat.le_trans s'.d hM)
  rw [r_self, r_self] at this
  exact this
theorem RAdd_r (q r : Rat) (A : Option Addr) (c : Nat) (D : Option Addr) (cd : Nat) (A' : Option Addr) (c' : Nat) (D' : Option Addr) (cd' : Nat) (B : Nat) (w : World) (hB : B ≤ w.heap.size) (h : RIn w B q A c D cd) (h' : RIn w B r A' c' D' cd') {L M : Nat} (s : RL q L) (s' : RL r M) (hL : L ≤ 150000) (hM : M ≤ 150000) :
    Calls Tryz.prog 13 #[rvl q A c D cd, rvl r A' c' D' cd'] w (RatRes (q + r) w) := by
  have := RAdd_big (decide (q.num < 0)) (decide (r.num < 0)) A c _ D cd _ A' c' _ D' cd' _ B w hB h.nm h.dn h'.nm h'.dn (Nat.le_trans s.n hL) (Nat.le_trans s.d hL) (Nat.le_trans s'.n hM) (Nat.le_trans s'.d hM)
  rw [r_self, r_self] at this
  exact this
set_option maxHeartbeats 2000000 in
set_option maxRecDepth 100000 in
theorem RNormal_any (ng : Bool) (A : Option Addr) (c : Nat) (ds : List Nat) (D : Option Addr) (cd : Nat) (es : List Nat) (B : Nat) (w : World) (hB : B ≤ w.heap.size)
    (h1 : NatIn w B A c ds) (h2 : NatIn w B D cd es) (l1 : ds.length ≤ 400000) (l2 : es.length ≤ 399999) :
    Calls Tryz.prog 73 #[.agg #[.bool ng, .slice A ds.length c, .slice D es.length cd]] w (RatRes (mkRat (ival ng ds) (val es)) w) := by
  obtain ⟨hb0, k0, k1, hs⟩ := boxes2 w 33 33 #[.bool ng, .slice A ds.length c, .slice D es.length cd] #[.bool false, .slice none 0 0, .slice none 0 0]
  have HP := Lib.hid (parts_any ng A c B ds D cd es _ (Nat.le_trans hB hb0.size) (h1.below (hb0.mono hB)) (h2.below (hb0.mono hB)) (by omega))
  unfold PartsRes at HP
  have HFIN := Lib.hid (fun (q : Rat) (hq : q = mkRat (ival ng ds) (val es)) (w2 : World) (A D : Option Addr) (c cd : Nat) (hk : Blk w2 (w.heap.size + 1) 33 #[.bool false, .slice none 0 0, .slice none 0 0]) l1 l2 n1 n2 hb => RatFin' (q := q) hq (w := w) (w2 := w2) (g := w.heap.size + 1) (A := A) (D := D) (c := c) (cd := cd) hk (Nat.le_succ _) l1 l2 n1 n2 hb)
  have HB0 := Lib.hid hb0; have HK1 := Lib.hid k1
  have HL := Lib.hid (And.intro l1 l2)
  generalize RatRes (mkRat (ival ng ds) (val es)) w = Post at *
  generalize mkRat (ival ng ds) (val es) = Q at *
  clear h1 h2 l1 l2 hb0 k0 k1 hs hB
  generalize ds.length = n0 at *
  generalize es.length = m0 at *
  go_enter Tryz.func73, Tryz.ntmps73
  go_wp2_with fail
  generalize (w.alloc (.cells #[.bool ng, .slice A n0 c, .slice D m0 cd] 33)).alloc (.cells #[.bool false, .slice none 0 0, .slice none 0 0] 33) = W0 at *
  refine HP.out.mono ?_
  rintro e w1 ⟨n1, ds1, es1, A1, c1, D1, d1, rfl, i1, i2, v1, r1, l1, l2, hb1⟩
  have HR := Lib.hid (reduce_any n1 A1 c1 w1.heap.size ds1 D1 d1 es1 w1 (Nat.le_refl _) i1 i2 (by have := HL.out; omega) (by have := HL.out; omega) v1)
  rw [r1] at HR
  unfold RatRes at HR
  have HB1 := Lib.hid (HB0.out.trans (hb1.mono HB0.out.size)); have HJ1 := Lib.hid (HK1.out.old hb1)
  clear i1 i2 v1 r1 l1 l2 hb1 HP HK1 HB0
  generalize ds1.length = x1 at *
  generalize es1.length = y1 at *
  go_wp2_with fail
  refine HR.out.mono ?_
  rintro e w2 ⟨A2, c2, D2, d2, rfl, l1, l2, n2, n3, hb2⟩
  have kk := HJ1.out.old hb2
  have u0 : w2.cell? ⟨w.heap.size + 1, 0, none⟩ = some (.bool false) := kk.cell 0
  have u1 : w2.cell? ⟨w.heap.size + 1, 1, none⟩ = some (.slice none 0 0) := kk.cell 1
  have u2 : w2.cell? ⟨w.heap.size + 1, 2, none⟩ = some (.slice none 0 0) := kk.cell 2
  have f0 := kk.frozen 0; have f1 := kk.frozen 1; have f2 := kk.frozen 2; have z0 := kk.lt
  have HF := Lib.hid (HFIN.out Q rfl w2 A2 D2 c2 d2 kk l1 l2 n2 n3 (HB1.out.trans (hb2.mono HB1.out.size)))
  clear kk hb2 l1 l2 n2 n3 HFIN
  go_wp2_with fail
  exact ret_blk Tryz.results73 rfl rfl HF.out.1 Tryz.underlying33 rfl Tryz.sizeRat HF.out.2
end Go.Proofs.YtpbapoanjkekmaaGreat
