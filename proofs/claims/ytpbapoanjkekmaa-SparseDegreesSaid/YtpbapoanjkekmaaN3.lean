/- Contracts of the package natural: Of, Cmp. -/
import Derived.Test.YtpbapoanjkekmaaN2
namespace Go.Proofs.Ytpbapoanjkekmaa
open Go.RowKit

theorem dig_len_mono {a b : Nat} (h : (dig a).length < (dig b).length) : a < b := by
  rcases Nat.lt_or_ge a b with h' | h'
  · exact h'
  · exfalso
    have h1 := val_lt (dig_dig a)
    rw [val_dig] at h1
    have := dig_len_lt (v := b) (n := (dig a).length) (by omega)
    omega
def cmpN (a b : Nat) : Int := if a < b then -1 else if b < a then 1 else 0
theorem val_split {a : List Nat} {k : Nat} (hk : k < a.length) : val a = val (a.take k) + 4294967296 ^ k * (a.getD k 0 + 4294967296 * val (a.drop (k + 1))) := by
  have e : a = a.take k ++ (a.getD k 0 :: a.drop (k + 1)) := by
    rw [List.getD_eq_getElem?_getD, List.getElem?_eq_getElem hk, Option.getD_some]
    simp
  conv => lhs; rw [e]
  rw [val_append, List.length_take, Nat.min_eq_left (Nat.le_of_lt hk)]
  rfl
theorem val_lt_at {a b : List Nat} (hl : a.length = b.length) {k : Nat} (hk : k < a.length) (ha : Dig a) (he : ∀ j, k < j → j < a.length → a.getD j 0 = b.getD j 0) (hx : a.getD k 0 < b.getD k 0) : val a < val b := by
  rw [val_split hk, val_split (a := b) (k := k) (by omega)]
  have e : a.drop (k + 1) = b.drop (k + 1) := by
    apply List.ext_getElem (by simp [hl])
    intro i h1 h2
    simp only [List.getElem_drop]
    have h1' : k + 1 + i < a.length := by simp at h1; omega
    have := he (k + 1 + i) (by omega) h1'
    rw [List.getD_eq_getElem?_getD, List.getD_eq_getElem?_getD, List.getElem?_eq_getElem h1', List.getElem?_eq_getElem (by omega)] at this
    simpa using this
  have h1 := val_lt (ds := a.take k) (fun x hx => ha x (List.mem_of_mem_take hx))
  rw [List.length_take, Nat.min_eq_left (by omega)] at h1
  rw [e]
  generalize 4294967296 ^ k = p at *
  generalize val (b.drop (k + 1)) = q at *
  generalize a.getD k 0 = x at *
  generalize b.getD k 0 = y at *
  have h2 : p * (x + 4294967296 * q) + p ≤ p * (y + 4294967296 * q) := by
    have := Nat.mul_le_mul_left p (show x + 4294967296 * q + 1 ≤ y + 4294967296 * q by omega)
    rw [Nat.mul_add, Nat.mul_one] at this
    exact this
  omega
theorem val_eq_of {a b : List Nat} (hl : a.length = b.length) (he : ∀ j, j < a.length → a.getD j 0 = b.getD j 0) : a = b := by
  apply List.ext_getElem hl
  intro i h1 h2
  have := he i h1
  rw [List.getD_eq_getElem?_getD, List.getD_eq_getElem?_getD, List.getElem?_eq_getElem h1, List.getElem?_eq_getElem h2] at this
  simpa using this

set_option maxHeartbeats 400000 in
theorem Of_any (n : Nat) (hn : n < 18446744073709551616) (w : World) : Calls Try.prog 59 #[.int .u64 (n : Int)] w (NatRes n w) := by
  have hv : val [n % 4294967296, n / 4294967296] = n := by simp only [val]; omega
  have hdg : Dig [n % 4294967296, n / 4294967296] := by
    intro d hd
    simp at hd
    rcases hd with rfl | rfl <;> omega
  have hb : Blk (w.alloc (.cells #[.int .u32 ((n : Int) % 4294967296), .int .u32 ((n : Int) / 4294967296)] 70)) w.heap.size 70 (u32s [n % 4294967296, n / 4294967296]).toArray := by
    have := Blk.new w 70 #[.int .u32 ((n : Int) % 4294967296), .int .u32 ((n : Int) / 4294967296)]
    simpa [u32s] using this
  have hrd := hb.reads 2 (Nat.le_refl _)
  have hcl := Normal_any (some ⟨w.heap.size, 0, none⟩) 2 _ [n % 4294967296, n / 4294967296] _ (Nat.le_refl _) (Nat.le_refl _) (by simp) hrd hdg
  rw [hv] at hcl
  have HCL := Lib.hid hcl
  clear hcl hrd hb hdg hv
  go_enter Try.func59, Try.ntmps59
  go_wp2_with fail
  refine (HCL.out).mono ?_
  rintro e w1 ⟨A, c, rfl, h1, h2, h3⟩
  generalize hes : dig n = es at *
  have HE := Lib.hid hes; clear hes
  go_wp2_with fail
  go_ret
  refine ⟨A, c, ?_, ?_, ?_, ((Below.refl w.heap.size w).alloc (Nat.le_refl _) _).trans (h3.mono (by simp))⟩
  · rw [HE.out]; rfl
  · rw [HE.out]; exact h1
  · rw [HE.out]; exact h2

set_option maxHeartbeats 1000000 in
theorem Cmp_any (A A' : Option Addr) (c c' B : Nat) (ds es : List Nat) (w : World) (hc : ds.length ≤ c) (hc' : es.length ≤ c') (hm : ds.length ≤ 1000000) (hm' : es.length ≤ 1000000)
    (hr : Reads w B 1 A ds.length (u32s ds)) (hr' : Reads w B 1 A' es.length (u32s es)) (hd : Dig ds) (hd' : Dig es) :
    Calls Try.prog 61 #[.slice A ds.length c, .slice A' es.length c'] w fun e w' => e = .returned (.int .i64 (cmpN (val ds) (val es))) ∧ Drawn w w' := by
  have h1 := trim_any A c B ds w hc hm hr hd
  have h2 := trim_any A' c' B es w hc' hm' hr' hd'
  have r1 := reads_dig hr hd
  have r2 := reads_dig hr' hd'
  have l1 := dig_len_le hd
  have l2 := dig_len_le hd'
  have m1 := @dig_len_mono (val ds) (val es)
  have m2 := @dig_len_mono (val es) (val ds)
  have g1 := dig_dig (val ds)
  have g2 := dig_dig (val es)
  have v1 := val_dig (val ds)
  have v2 := val_dig (val es)
  generalize val ds = x at *
  generalize val es = y at *
  generalize dig x = a at *
  generalize dig y = b at *
  have H1 := Lib.hid h1; have H2 := Lib.hid h2; have M1 := Lib.hid m1; have M2 := Lib.hid m2; have G1 := Lib.hid g1; have G2 := Lib.hid g2; have V1 := Lib.hid v1; have V2 := Lib.hid v2
  clear h1 h2 m1 m2 g1 g2 v1 v2 hr hr' hd hd'
  by_cases hlt : a.length < b.length
  · go_enter Try.func61, Try.ntmps61
    go_wp2_with fail
    refine (H1.out).mono ?_
    rintro e w1 ⟨rfl, rfl⟩
    go_wp2_with fail
    refine (H2.out).mono ?_
    rintro e w1 ⟨rfl, rfl⟩
    go_wp2_with fail
    go_ret
    have := M1.out hlt
    exact ⟨by unfold cmpN; rw [if_pos this]; rfl, .refl _⟩
  by_cases hgt : b.length < a.length
  · go_enter Try.func61, Try.ntmps61
    go_wp2_with fail
    refine (H1.out).mono ?_
    rintro e w1 ⟨rfl, rfl⟩
    go_wp2_with fail
    refine (H2.out).mono ?_
    rintro e w1 ⟨rfl, rfl⟩
    go_wp2_with fail
    go_ret
    have := M2.out hgt
    exact ⟨by unfold cmpN; rw [if_neg (by omega), if_pos this]; rfl, .refl _⟩
  have hl : a.length = b.length := by omega
  have HL := Lib.hid hl; clear hl
  go_enter Try.func61, Try.ntmps61
  go_wp2_with fail
  refine (H1.out).mono ?_
  rintro e w1 ⟨rfl, rfl⟩
  go_wp2_with fail
  refine (H2.out).mono ?_
  rintro e w1 ⟨rfl, rfl⟩
  go_wp2_with fail
  go_loopg [5] a.length (fun gn i wr => ∃ (k : Nat), k ≤ a.length ∧ gn = k ∧ i = .int .i64 ((k : Int) - 1) ∧ (∀ j, k ≤ j → j < a.length → a.getD j 0 = b.getD j 0) ∧ Drawn w wr)
  case atStart => exact ⟨_, Nat.le_refl _, rfl, rfl, fun j h1 h2 => by omega, .refl _⟩
  case round =>
    obtain ⟨k, hk, hgk, rfl, hz, hdr⟩ := hrel
    have HG := Lib.hid hgk; clear hgk
    have HZ := Lib.hid hz; clear hz
    by_cases h0 : 0 < k
    · obtain ⟨k, rfl⟩ : ∃ k', k = k' + 1 := ⟨k - 1, by omega⟩
      have hlb := HL.out
      obtain ⟨b1, o1, rfl, q1, c1⟩ := nat_at (r1.drawn hdr) (k := k) (by omega)
      obtain ⟨b2, o2, rfl, q2, c2⟩ := nat_at (r2.drawn hdr) (k := k) (by omega)
      have i1 : (k : Int) < a.length := by omega
      have i2 : (k : Int) < b.length := by omega
      have ek : ((k + 1 : Nat) : Int) - 1 = (k : Int) := by omega
      clear hlb
      rw [ek]
      have HA := Lib.hid (@val_lt_at a b HL.out k (by omega) G1.out)
      have HB := Lib.hid (@val_lt_at b a HL.out.symm k (by omega) G2.out)
      have HX : Hid (∃ x y, x = a.getD k 0 ∧ y = b.getD k 0) := ⟨_, _, rfl, rfl⟩
      generalize hxa : a.getD k 0 = xa at *
      generalize hxb : b.getD k 0 = xb at *
      have HXA := Lib.hid hxa; have HXB := Lib.hid hxb
      clear hxa hxb HX
      rcases Nat.lt_trichotomy xa xb with h | h | h
      · go_wp2
        go_quiet (fail)
        go_wp2
        go_ret
        refine ⟨?_, hdr.trans (.drewN _ _)⟩
        have hv : x < y := by
          rw [← V1.out, ← V2.out]
          exact HA.out (fun j h1 h2 => HZ.out j (by omega) h2) h
        unfold cmpN; rw [if_pos hv]; rfl
      · subst h
        go_wp2
        go_quiet (fail)
        go_wp2
        go_quiet (fail)
        go_wp2
        go_roundg k
        case rel => exact ⟨k, by omega, rfl, rfl, fun j h1 h2 => by
          by_cases hj : j = k
          · subst hj; rw [HXA.out, HXB.out]
          · exact HZ.out j (by omega) h2, hdr.trans (.drewN _ _)⟩
        case measure => have := HG.out; omega
      · go_wp2
        go_quiet (fail)
        go_wp2
        go_quiet (fail)
        go_wp2
        go_ret
        refine ⟨?_, (hdr.trans (.drewN _ _)).trans (.drewN _ _)⟩
        have hv : y < x := by
          rw [← V1.out, ← V2.out]
          exact HB.out (fun j h1 h2 => (HZ.out j (by omega) (by have := HL.out; omega)).symm) h
        unfold cmpN; rw [if_neg (by omega), if_pos hv]; rfl
    · obtain rfl : k = 0 := by omega
      go_wp2
      go_ret
      refine ⟨?_, hdr⟩
      have hv : x = y := by
        rw [← V1.out, ← V2.out, val_eq_of HL.out (fun j h => HZ.out j (by omega) h)]
      unfold cmpN; rw [if_neg (by omega), if_neg (by omega)]; rfl
end Go.Proofs.Ytpbapoanjkekmaa
