/- Contracts of math/bits.Div32 and of natural.DivSmall. -/
import Derived.Shelf.Strings.BuilderK
import Derived.IntWalk
import Derived.Test.YtpbapoanjkekmaaZM
import Derived.Test.YtpbapoanjkekmaaZT
import Derived.Test.YtpbapoanjkekmaaZN
import Derived.Test.YtpbapoanjkekmaaZI
namespace Go.Proofs.Ytpbapoanjkekmaa
open Go.RowKit

theorem div_lt {h l y : Nat} (hl : l < 4294967296) (hy : h < y) : (h * 4294967296 + l) / y < 4294967296 := by
  rw [Nat.div_lt_iff_lt_mul (by omega)]
  have : (h + 1) * 4294967296 ≤ y * 4294967296 := Nat.mul_le_mul_right _ hy
  rw [Nat.mul_comm 4294967296 y]
  omega
theorem wraps_u64n {n : Nat} (h : n < 18446744073709551616) : IntKind.u64.wrap (n : Int) = (n : Int) := by
  simp only [IntKind.wrap, IntKind.bits, IntKind.signed]
  simp
  omega
theorem or_join (h l : Nat) (hh : h < 4294967296) (hl : l < 4294967296) : bits .or .u64 ((h : Int) * 4294967296) (l : Int) = ((h * 4294967296 + l : Nat) : Int) := by
  have := bits_join .u64 64 (by decide) (fun n h0 h1 => by obtain ⟨m, rfl⟩ := Int.eq_ofNat_of_zero_le h0; exact wraps_u64n (by omega)) 32 ((h : Int) * 4294967296) (l : Int) (by omega) (by omega) (by omega) (by omega) (by omega) (by omega)
  rw [this]
  omega
set_option maxHeartbeats 400000 in
theorem div32_any (h l y : Nat) (hh : h < y) (hl : l < 4294967296) (hy : y < 4294967296) (w : World) :
    Calls Try.prog 92 #[.int .u32 (h : Int), .int .u32 (l : Int), .int .u32 (y : Int)] w fun e w' => e = .returned (.tuple #[.int .u32 (((h * 4294967296 + l) / y : Nat) : Int), .int .u32 (((h * 4294967296 + l) % y : Nat) : Int)]) ∧ Drawn w w' := by
  have g1 : ¬ ((y : Int) = 0) := by omega
  have g2 : ¬ ((y : Int) ≤ (h : Int)) := by omega
  have hor := or_join h l (by omega) hl
  have hq := div_lt hl hh
  have hz : h * 4294967296 + l < 18446744073709551616 := by omega
  have hr : (h * 4294967296 + l) % y < y := Nat.mod_lt _ (by omega)
  generalize h * 4294967296 + l = z at *
  have e0 : (z : Int) / (y : Int) = ((z / y : Nat) : Int) := (Int.natCast_ediv _ _).symm
  have e1 : (z : Int) % (y : Int) = ((z % y : Nat) : Int) := (Int.natCast_emod _ _).symm
  generalize z / y = q at *
  generalize z % y = r at *
  go_enter Try.func92, Try.ntmps92
  go_wp2
  go_region
  go_wp2
  go_ret2
  exact ⟨rfl, Drawn.drew _⟩

/-- the quotient so far: the digits above k are done -/
structure DivSt (zs a : List Nat) (d r k : Nat) : Prop where
  len : zs.length = a.length
  dg : Dig zs
  zero : ∀ j, j < k → zs.getD j 0 = 0
  sum : val zs * d + 4294967296 ^ k * r = 4294967296 ^ k * val (a.drop k)
  rest : r < d
theorem divSt0 (a : List Nat) {d : Nat} (hd : 0 < d) : DivSt (List.replicate a.length 0) a d 0 a.length :=
  ⟨by simp, fun x hx => by have := List.eq_of_mem_replicate hx; omega, fun j h => by simp [h], by simp [val_zeros, val], hd⟩
theorem drop_val {a : List Nat} {k : Nat} (hk : k < a.length) : val (a.drop k) = a.getD k 0 + 4294967296 * val (a.drop (k + 1)) := by
  rw [List.drop_eq_getElem_cons hk, val]
  simp [List.getElem?_eq_getElem hk]
theorem DivSt.step {zs a : List Nat} {d r k q s : Nat} (h : DivSt zs a d r (k + 1)) (hk : k < a.length) (hq : q < 4294967296) (hs : s < d) (he : q * d + s = r * 4294967296 + a.getD k 0) : DivSt (zs.set k q) a d s k := by
  refine ⟨by simp [h.len], fun x hx => ?_, fun j hj => ?_, ?_, hs⟩
  · rcases List.mem_or_eq_of_mem_set hx with hx | rfl
    · exact h.dg x hx
    · exact hq
  · have := h.zero j (by omega)
    rw [List.getD_eq_getElem?_getD, List.getElem?_set_ne (by omega), ← List.getD_eq_getElem?_getD]
    exact this
  · have hv := val_set (ds := zs) (k := k) (by rw [h.len]; exact hk) q
    rw [h.zero k (by omega), Nat.mul_zero, Nat.add_zero] at hv
    have h0 := h.sum
    rw [hv, drop_val hk, Nat.add_mul, Nat.mul_add]
    rw [Nat.pow_succ] at h0
    generalize 4294967296 ^ k = p at *
    have e1 : p * (q * d + s) = p * (r * 4294967296 + a.getD k 0) := by rw [he]
    have e2 : p * (q * d) = p * q * d := (Nat.mul_assoc _ _ _).symm
    have e3 : p * (r * 4294967296) = p * 4294967296 * r := by rw [Nat.mul_comm r, Nat.mul_assoc]
    have e4 : p * (4294967296 * val (a.drop (k + 1))) = p * 4294967296 * val (a.drop (k + 1)) := (Nat.mul_assoc _ _ _).symm
    rw [Nat.mul_add, Nat.mul_add, e2, e3] at e1
    rw [e4]
    omega
theorem DivSt.last {zs a : List Nat} {d r : Nat} (h : DivSt zs a d r 0) : val zs = val a / d ∧ r = val a % d := by
  have h0 := h.sum
  simp at h0
  have h1 := h.rest
  have e : val a = r + d * val zs := by rw [← h0, Nat.mul_comm d]; omega
  refine ⟨?_, ?_⟩
  · rw [e, Nat.add_mul_div_left _ _ (by omega), Nat.div_eq_of_lt h1]; omega
  · rw [e, Nat.add_mul_mod_self_left, Nat.mod_eq_of_lt h1]

/-- how DivSmall ends -/
def DivRes (v d : Nat) (w : World) (e : Ending) (w' : World) : Prop :=
  ∃ A c, e = .returned (.tuple #[.slice A (dig (v / d)).length c, .int .u32 ((v % d : Nat) : Int), .bool true]) ∧ (dig (v / d)).length ≤ c ∧ NatB w' A (dig (v / d)) ∧ Below w.heap.size w w'

set_option maxHeartbeats 2000000 in
set_option maxRecDepth 100000 in
theorem DivSmall_any (A : Option Addr) (c B : Nat) (ds : List Nat) (d : Nat) (w : World) (hB : B ≤ w.heap.size) (hc : ds.length ≤ c) (hm : ds.length ≤ 900000) (hd0 : 0 < d) (hd1 : d < 4294967296)
    (hr : Reads w B 1 A ds.length (u32s ds)) (hd : Dig ds) :
    Calls Try.prog 81 #[.slice A ds.length c, .int .u32 (d : Int)] w (DivRes (val ds) d w) := by
  have h1 := trim_any A c B ds w hc (by omega) hr hd
  have r1 := reads_dig hr hd
  have l1 := dig_len_le hd
  have g1 := dig_dig (val ds)
  have v1 := val_dig (val ds)
  generalize val ds = x at *
  generalize dig x = a at *
  have H1 := Lib.hid h1; have G1 := Lib.hid g1; have V1 := Lib.hid v1
  clear h1 g1 v1 hr hd
  have hmk := fun (W : World) => Try.make_u32 a.length (by omega) W
  have hdz : ¬ ((d : Int) = 0) := by omega
  go_enter Try.func81, Try.ntmps81
  go_wp2_with fail
  refine (H1.out).mono ?_
  rintro e w1 ⟨rfl, rfl⟩
  go_wp2_with fail
  clear hmk
  have hbl0 : Below w.heap.size w (w.alloc (.cells (u32s (List.replicate a.length 0)).toArray 70)) := (Below.refl _ w).alloc (Nat.le_refl _) _
  have hzb0 := Blk.new w 70 (u32s (List.replicate a.length 0)).toArray
  go_loopg [8, 9] a.length (fun gn rr ix wr => ∃ (k r : Nat) (zs : List Nat), k ≤ a.length ∧ gn = k ∧ ix = .int .i64 ((k : Int) - 1) ∧ rr = .int .u32 (r : Int) ∧ DivSt zs a d r k ∧ Blk wr w.heap.size 70 (u32s zs).toArray ∧ Below w.heap.size w wr)
  case atStart => exact ⟨a.length, 0, _, Nat.le_refl _, rfl, rfl, rfl, divSt0 a hd0, hzb0, hbl0⟩
  case round =>
    clear hzb0 hbl0
    obtain ⟨k, r, zs, hk, hgk, rfl, rfl, hst, hzb, hbl⟩ := hrel
    have HG := Lib.hid hgk; clear hgk
    rcases Nat.eq_zero_or_pos k with hk0 | hk0
    · subst hk0
      have hl := hst.last
      have hzlen := hst.len
      have hdg := hst.dg
      rw [V1.out] at hl
      obtain ⟨hl1, hl2⟩ := hl
      have hrd := hzb.reads zs.length (Nat.le_refl _)
      rw [List.take_length] at hrd
      have htr := trim_any (some ⟨w.heap.size, 0, none⟩) a.length _ zs _ (by omega) (by omega) hrd hdg
      have hrd2 := (NatB.of_blk hzb).dig hdg
      have hll := dig_len_le hdg
      rw [hzlen] at htr hll
      rw [hl1] at htr hrd2 hll
      generalize hws : dig (x / d) = ws at *
      have HW := Lib.hid hws; have HL2 := Lib.hid hl2
      have HTR := Lib.hid htr; have HRD := Lib.hid hrd2; have HLL := Lib.hid hll
      clear htr hrd2 hll hrd hst hdg hl1 hl2 hzlen hzb hws
      go_wp2_with fail
      refine (HTR.out).mono ?_
      rintro e w5 ⟨rfl, rfl⟩
      go_wp2_with fail
      refine bodyPost_ret (results_tmp3 rfl _ _ _) rfl ?_
      exact ⟨_, _, by rw [HW.out, ← HL2.out]; rfl, by rw [HW.out]; exact HLL.out, by rw [HW.out]; exact HRD.out, hbl⟩
    · obtain ⟨j, rfl⟩ : ∃ j, k = j + 1 := ⟨k - 1, by omega⟩
      obtain ⟨b1, o1, rfl, q1, c1⟩ := nat_at (r1.below (hbl.mono hB)) (k := j) (by omega)
      have hxa := dig_at G1.out j
      have hrl := hst.rest
      have hq := div_lt (h := r) hxa hrl
      have hs : (r * 4294967296 + a.getD j 0) % d < d := Nat.mod_lt _ hd0
      have he : (r * 4294967296 + a.getD j 0) / d * d + (r * 4294967296 + a.getD j 0) % d = r * 4294967296 + a.getD j 0 := by rw [Nat.mul_comm]; exact Nat.div_add_mod _ _
      have hN := hst.step (k := j) (by omega) hq hs he
      have hzl : j < zs.length := by rw [hst.len]; omega
      have HC := Lib.hid (fun (W : World) => div32_any r (a.getD j 0) d hrl hxa hd1 W)
      have c3 : wr.cell? ⟨w.heap.size, j, none⟩ = some (.int .u32 ((zs.getD j 0 : Nat) : Int)) := (hzb.cell j).trans (u32s_at _ _ hzl)
      have HN := Lib.hid hN; have HST := Lib.hid hst
      clear hN hst hq hs he
      generalize (r * 4294967296 + a.getD j 0) / d = q at *
      generalize (r * 4294967296 + a.getD j 0) % d = s at *
      generalize a.getD j 0 = xa at *
      generalize zs.getD j 0 = zj at *
      have z1 := hzb.lt
      have i1 : (j : Int) < (a.length : Int) := by omega
      have i0 : (0 : Int) ≤ (j : Int) := by omega
      have ek : ((j + 1 : Nat) : Int) - 1 = (j : Int) := by omega
      rw [ek]
      have HEK := Lib.hid ek
      clear ek hk0
      go_wp2_with fail
      refine (HC.out _).mono ?_
      rintro e w1 ⟨rfl, hdr⟩
      have hzb1 := hzb.drawn hdr
      have c4 : w1.cell? ⟨w.heap.size, j, none⟩ = some (.int .u32 (zj : Int)) := (hdr.cell _).trans c3
      have f4 := hzb1.frozen j
      have hbl1 := hbl.trans (hdr.below _)
      have z2 := hzb1.lt
      clear c1 c3 hdr hzb
      go_wp2_with fail
      go_roundg j
      case rel =>
        refine ⟨j, s, zs.set j q, by omega, rfl, rfl, rfl, HN.out, ?_, hbl1.setCell (Nat.le_refl _) _⟩
        rw [← u32s_set]; exact hzb1.set_ j _
      case measure => have := HG.out; omega
end Go.Proofs.Ytpbapoanjkekmaa

/- Decimal digits, the last one first: plain laws for decimal.format. -/
namespace Go.Proofs.Ytpbapoanjkekmaa

def dch (d : Nat) : UInt8 := UInt8.ofNat (48 + d)
/-- the digits of n, the last one first; none for 0 -/
def revD (n : Nat) : Bs := if h : n = 0 then [] else dch (n % 10) :: revD (n / 10)
termination_by n
decreasing_by omega
theorem revD_zero : revD 0 = [] := by rw [revD, dif_pos rfl]
theorem revD_pos {n : Nat} (h : n ≠ 0) : revD n = dch (n % 10) :: revD (n / 10) := by rw [revD, dif_neg h]
theorem revD_rev (n : Nat) (h : n ≠ 0) : (revD n).reverse = Lib.decDigits n := by
  induction n using Nat.strongRecOn with
  | _ n ih =>
    rw [revD_pos h, List.reverse_cons]
    by_cases hs : n < 10
    · rw [show n / 10 = 0 by omega, revD_zero, decD_small hs, Nat.mod_eq_of_lt hs]
      rfl
    · rw [ih (n / 10) (by omega) (by omega), decD_big hs]
      rfl
/-- the first k of them, zeros behind the number too -/
def digs (n : Nat) : Nat → Bs
  | 0 => []
  | k + 1 => digs n k ++ [dch (n / 10 ^ k % 10)]
theorem revD_digs {n : Nat} : ∀ k, n / 10 ^ k ≠ 0 → revD n = digs n k ++ revD (n / 10 ^ k)
  | 0, _ => by simp [digs]
  | k + 1, h => by
    have e : n / 10 ^ (k + 1) = n / 10 ^ k / 10 := by rw [Nat.pow_succ, Nat.div_div_eq_div_mul]
    have hk : n / 10 ^ k ≠ 0 := by rw [e] at h; omega
    rw [revD_digs k hk, revD_pos hk, digs, e]
    simp
theorem digs_mod (n K : Nat) : ∀ k, k ≤ K → digs (n % 10 ^ K) k = digs n k
  | 0, _ => rfl
  | k + 1, h => by
    have e : n % 10 ^ K / 10 ^ k % 10 = n / 10 ^ k % 10 := by
      have e1 : 10 ^ K = 10 ^ k * (10 * 10 ^ (K - k - 1)) := by
        rw [← Nat.mul_assoc, ← Nat.pow_succ, ← Nat.pow_add]
        congr 1
        omega
      rw [e1, Nat.mod_mul_right_div_self, Nat.mod_mul_right_mod]
    rw [digs, digs, digs_mod n K k (by omega), e]
theorem revD_chunk {n : Nat} (h : n / 1000000000 ≠ 0) : revD n = digs (n % 1000000000) 9 ++ revD (n / 1000000000) := by
  have h1 := revD_digs (n := n) 9 h
  rw [h1]
  congr 1
  exact (digs_mod n 9 9 (Nat.le_refl _)).symm
theorem revD_len {n k : Nat} (h : n < 10 ^ k) : (revD n).length ≤ k := by
  induction k generalizing n with
  | zero => rw [show n = 0 by simpa using h, revD_zero]; simp
  | succ k ih =>
    by_cases h0 : n = 0
    · rw [h0, revD_zero]; simp
    · rw [revD_pos h0]
      have := ih (n := n / 10) (by rw [Nat.pow_succ] at h; omega)
      simp only [List.length_cons]
      omega
end Go.Proofs.Ytpbapoanjkekmaa

/- Contracts of strings.Builder's copyCheck and WriteString at this translation (the shelf's fit another translation of copyCheck's last branch). -/
namespace Go.Proofs.Ytpbapoanjkekmaa
open Go.RowKit

theorem Try.infoU8 : (Try.prog.info? 5).map (fun i => (i.zero, i.size, i.bytes)) = some (some (.int .u8 0), 1, 1) := by kernel_rfl

end Go.Proofs.Ytpbapoanjkekmaa

/- Contracts of decimal.chunk and of slices.Reverse at bytes. -/
namespace Go.Proofs.Ytpbapoanjkekmaa
open Go.RowKit

/-! ### a row turned round -/
section
variable {α : Type}
def swapTo (l : List α) : Nat → List α
  | 0 => l
  | k + 1 => match (swapTo l k)[k]?, (swapTo l k)[l.length - 1 - k]? with
    | some x, some y => ((swapTo l k).set k y).set (l.length - 1 - k) x
    | _, _ => swapTo l k
theorem swapTo_len (l : List α) (k : Nat) : (swapTo l k).length = l.length := by
  induction k with
  | zero => rfl
  | succ k ih =>
    unfold swapTo
    split
    · simp [ih]
    · exact ih
theorem swapTo_at (l : List α) (k : Nat) (hk : 2 * k ≤ l.length) (i : Nat) (hi : i < l.length) : (swapTo l k)[i]? = if i < k ∨ l.length - k ≤ i then l[l.length - 1 - i]? else l[i]? := by
  induction k generalizing i with
  | zero => rw [if_neg (by omega)]; rfl
  | succ k ih =>
    have a := ih (by omega) k (by omega)
    have b := ih (by omega) (l.length - 1 - k) (by omega)
    rw [if_neg (by omega)] at a b
    have hx : ∃ x, l[k]? = some x := ⟨_, List.getElem?_eq_getElem (by omega)⟩
    have hy : ∃ y, l[l.length - 1 - k]? = some y := ⟨_, List.getElem?_eq_getElem (by omega)⟩
    obtain ⟨x, hx⟩ := hx
    obtain ⟨y, hy⟩ := hy
    unfold swapTo
    rw [a, b, hx, hy]
    show (((swapTo l k).set k y).set (l.length - 1 - k) x)[i]? = _
    have hl := swapTo_len l k
    by_cases h1 : i = l.length - 1 - k
    · subst h1
      rw [List.getElem?_set_self (by simp [hl]; omega), if_pos (by omega), show l.length - 1 - (l.length - 1 - k) = k by omega, hx]
    · rw [List.getElem?_set_ne (fun e => h1 e.symm)]
      by_cases h2 : i = k
      · subst h2
        rw [List.getElem?_set_self (by rw [hl]; omega), if_pos (by omega), hy]
      · rw [List.getElem?_set_ne (fun e => h2 e.symm), ih (by omega) i hi]
        by_cases h3 : i < k ∨ l.length - k ≤ i
        · rw [if_pos h3, if_pos (by omega)]
        · rw [if_neg h3, if_neg (by omega)]
theorem swapTo_all (l : List α) (k : Nat) (h1 : 2 * k ≤ l.length) (h2 : l.length ≤ 2 * k + 1) : swapTo l k = l.reverse := by
  apply List.ext_getElem?
  intro i
  by_cases hi : i < l.length
  · rw [swapTo_at l k h1 i hi, List.getElem?_reverse hi]
    split
    · rfl
    · rw [show l.length - 1 - i = i by omega]
  · rw [List.getElem?_eq_none (by rw [swapTo_len]; omega), List.getElem?_eq_none (by simp; omega)]
theorem swapTo_step {l : List α} {k : Nat} {x y : α} (hx : (swapTo l k)[k]? = some x) (hy : (swapTo l k)[l.length - 1 - k]? = some y) : swapTo l (k + 1) = ((swapTo l k).set k y).set (l.length - 1 - k) x := by
  rw [swapTo, hx, hy]
end
theorem own_put {w : World} {base g cap n : Nat} {e : TypeId} {xs : List Value} (h : w.ownsRow base e 1 (.slice (some ⟨g, 0, none⟩) n cap) n xs) (j : Nat) (u : Value) : (w.setCell ⟨g, j, none⟩ u).ownsRow base e 1 (.slice (some ⟨g, 0, none⟩) n cap) n (xs.set j u) := by
  refine ⟨by simpa using h.1, ?_⟩
  rcases h.2 with ⟨h1, _⟩ | ⟨g', cap', cur, h1, h2, h3, h4, h5, h6, h7⟩
  · cases h1
  · injection h1 with a1 a2 a3
    injection a1 with a1
    injection a1 with a1
    subst a1
    subst a3
    refine .inr ⟨g, cap, cur.setIfInBounds j u, rfl, h2, ?_, h4, h5, by simpa using h6, ?_⟩
    · have hb : Blk w g e cur := h3
      exact hb.set_ j u
    · rw [Array.toList_setIfInBounds, ← h7, List.take_set]

end Go.Proofs.Ytpbapoanjkekmaa
