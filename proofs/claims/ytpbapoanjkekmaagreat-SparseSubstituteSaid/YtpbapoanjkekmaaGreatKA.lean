/- Contract of natural.addInto. -/
import Derived.Test.YtpbapoanjkekmaaGreatZM
namespace Go.Proofs.YtpbapoanjkekmaaGreat
open Go.RowKit

/-- only the block g was written -/
structure Into (w w' : World) (g : Nat) : Prop where
  other : ∀ g' t cs, g' ≠ g → Blk w g' t cs → Blk w' g' t cs
  below : ∀ B b, Below B b w → B ≤ g → Below B b w'
theorem Into.refl (w : World) (g : Nat) : Into w w g := ⟨fun _ _ _ _ h => h, fun _ _ h _ => h⟩
theorem Into.set {w w' : World} {g : Nat} (h : Into w w' g) (k : Nat) (v : Value) : Into w (w'.setCell ⟨g, k, none⟩ v) g :=
  ⟨fun g' t cs hg hb => (h.other g' t cs hg hb).far hg _, fun B b hb hB => (h.below B b hb hB).setCell hB _⟩

/-- digits zs with a carry c at the place i, in all X -/
structure AddT (zs : List Nat) (n i c X : Nat) : Prop where
  len : zs.length = n
  dg : Dig zs
  sum : val zs + 4294967296 ^ i * c = X
  carry : c ≤ 1
theorem AddT.step {zs : List Nat} {n i c X y : Nat} (h : AddT zs n i c X) (hi : i < n) (hy : y < 4294967296) :
    AddT (zs.set i ((zs.getD i 0 + y + c) % 4294967296)) n (i + 1) ((zs.getD i 0 + y + c) / 4294967296) (X + 4294967296 ^ i * y) := by
  have hc := h.carry
  have hz := dig_at h.dg i
  refine ⟨by simp [h.len], fun d hd => ?_, ?_, by omega⟩
  · rcases List.mem_or_eq_of_mem_set hd with hd | rfl
    · exact h.dg d hd
    · exact Nat.mod_lt _ (by decide)
  · have hv := val_set (ds := zs) (k := i) (by rw [h.len]; exact hi) ((zs.getD i 0 + y + c) % 4294967296)
    have h0 := h.sum
    obtain ⟨s, hs⟩ : ∃ s, s = (zs.getD i 0 + y + c) % 4294967296 := ⟨_, rfl⟩
    obtain ⟨o, ho⟩ : ∃ o, o = (zs.getD i 0 + y + c) / 4294967296 := ⟨_, rfl⟩
    rw [← hs] at hv ⊢
    rw [← ho]
    have e : zs.getD i 0 + y + c = s + 4294967296 * o := by omega
    clear hs ho
    generalize zs.getD i 0 = z at *
    have e2 : 4294967296 ^ i * (z + y + c) = 4294967296 ^ i * (s + 4294967296 * o) := by rw [e]
    rw [Nat.mul_add, Nat.mul_add, Nat.mul_add, ← Nat.mul_assoc] at e2
    rw [Nat.pow_succ]
    omega
/-- a number in a block other than g -/
def NatX (w : World) (g : Nat) (A : Option Addr) (es : List Nat) : Prop :=
  es = [] ∨ ∃ h xs, A = some ⟨h, 0, none⟩ ∧ h ≠ g ∧ Blk w h 82 (u32s xs).toArray ∧ es = xs.take es.length
theorem natX_at {w wr : World} {g : Nat} {A : Option Addr} {es : List Nat} (h : NatX w g A es) (hi : Into w wr g) {k : Nat} (hk : k < es.length) :
    ∃ b, A = some ⟨b, 0, none⟩ ∧ b < wr.heap.size ∧ wr.cell? ⟨b, k, none⟩ = some (.int .u32 ((es.getD k 0 : Nat) : Int)) := by
  rcases h with rfl | ⟨b, xs, rfl, hg, hb, he⟩
  · simp at hk
  · have hb2 := hi.other _ _ _ hg hb
    have hl : es.length ≤ xs.length := by
      have := congrArg List.length he
      rw [List.length_take] at this
      omega
    refine ⟨b, rfl, hb2.lt, ?_⟩
    rw [hb2.cell k]
    refine (u32s_at xs k (by omega)).trans ?_
    have e : es.getD k 0 = xs.getD k 0 := by
      rw [List.getD_eq_getElem?_getD, List.getD_eq_getElem?_getD]
      conv => lhs; rw [he]
      rw [List.getElem?_take]
      simp [hk]
    rw [e]
set_option maxHeartbeats 2000000 in
set_option maxRecDepth 100000 in
theorem addInto_any (g o m cz : Nat) (zs : List Nat) (A : Option Addr) (c : Nat) (es : List Nat) (w : World) (hm : o + m = zs.length) (hl : zs.length ≤ 1000000) (hem : es.length ≤ m)
    (hz : Blk w g 82 (u32s zs).toArray) (gz : Dig zs) (ge : Dig es) (hx : NatX w g A es) (hfit : val zs + 4294967296 ^ o * val es < 4294967296 ^ zs.length) :
    Calls Tryz.prog 110 #[.slice (some ⟨g, o, none⟩) m cz, .slice A es.length c] w fun e w' => e = .returned (.tuple #[]) ∧ Into w w' g ∧ ∃ zs', zs'.length = zs.length ∧ Dig zs' ∧ val zs' = val zs + 4294967296 ^ o * val es ∧ Blk w' g 82 (u32s zs').toArray := by
  have GE := Lib.hid ge; have HX := Lib.hid hx; have HFIT := Lib.hid hfit
  have HST0 := Lib.hid (show AddT zs zs.length (o + 0) 0 (val zs + 4294967296 ^ o * val (es.take 0)) from ⟨rfl, gz, by simp [val], by omega⟩)
  have HZ0 := Lib.hid hz
  clear ge hx hfit gz hz
  go_enter Tryz.func110, Tryz.ntmps110
  go_wp2_with fail
  go_loopg [4, 5, 6, 10] es.length (fun gn cy _ _ j wr => ∃ (k : Nat) (zt : List Nat) (q : Nat), k ≤ es.length ∧ gn = es.length - k ∧ j = .int .i64 k ∧ cy = .int .u32 (q : Int) ∧ AddT zt zs.length (o + k) q (val zs + 4294967296 ^ o * val (es.take k)) ∧ Blk wr g 82 (u32s zt).toArray ∧ Into w wr g)
  case atStart => exact ⟨0, zs, 0, Nat.zero_le _, rfl, rfl, rfl, HST0.out, HZ0.out, Into.refl _ _⟩
  case round =>
    clear HST0 HZ0
    obtain ⟨k, zt, q, hk, hgk, rfl, rfl, hst, hzb, hin⟩ := hrel
    have HG := Lib.hid hgk; clear hgk
    have hq := hst.carry
    by_cases hlt : k < es.length
    · obtain ⟨b1, rfl, q1, c1⟩ := natX_at HX.out hin hlt
      have hy := dig_at GE.out k
      have HT := Lib.hid (val_take_succ (ds := es) (k := k) hlt)
      have hzl : o + k < zt.length := by rw [hst.len]; omega
      have c3 : wr.cell? ⟨g, o + k, none⟩ = some (.int .u32 ((zt.getD (o + k) 0 : Nat) : Int)) := (hzb.cell (o + k)).trans (u32s_at _ _ hzl)
      have hzz := dig_at hst.dg (o + k)
      have f3 := hzb.frozen (o + k)
      have z1 := hzb.lt
      generalize es.getD k 0 = y at *
      have HN := Lib.hid (hst.step (by omega) hy)
      have HA := Lib.hid (add32_any (zt.getD (o + k) 0) y q hzz hy hq)
      generalize zt.getD (o + k) 0 = z at *
      generalize (z + y + q) % 4294967296 = s at *
      generalize (z + y + q) / 4294967296 = cy at *
      have HZB := Lib.hid hzb; have HIN := Lib.hid hin
      clear hst hzb hin hzz hy
      have i1 : (k : Int) < es.length := by omega
      have i2 : (k : Int) < (m : Int) := by omega
      go_wp2_with fail
      refine (HA.out _).mono ?_
      rintro e w1 ⟨rfl, rfl⟩
      go_wp2_with fail
      go_roundg (es.length - (k + 1))
      case rel =>
        refine ⟨k + 1, zt.set (o + k) s, cy, by omega, rfl, by go_num, rfl, ?_, ?_, HIN.out.set _ _⟩
        · have h := HN.out
          rw [HT.out, Nat.mul_add, ← Nat.mul_assoc, ← Nat.pow_add]
          rw [Nat.add_assoc (val zs)] at h
          exact h
        · rw [← u32s_set]; exact HZB.out.set_ (o + k) _
      case measure => have := HG.out; omega
    · obtain rfl : k = es.length := by omega
      rw [List.take_length] at hst
      have HST0 := Lib.hid hst; clear hst
      go_wp2_with fail
      go_loopg [4, 7] (m - es.length) (fun gn cy i wr => ∃ (k : Nat) (zt : List Nat) (q : Nat), es.length ≤ k ∧ k ≤ m ∧ gn = m - k ∧ i = .int .i64 k ∧ cy = .int .u32 (q : Int) ∧ AddT zt zs.length (o + k) q (val zs + 4294967296 ^ o * val es) ∧ Blk wr g 82 (u32s zt).toArray ∧ Into w wr g)
      case atStart => exact ⟨es.length, zt, q, Nat.le_refl _, hem, rfl, rfl, rfl, HST0.out, hzb, hin⟩
      case round =>
        clear HST0 hzb hin hq HG
        obtain ⟨k, zt, q, hek, hk, hgk, rfl, rfl, hst, hzb, hin⟩ := hrel
        have HG := Lib.hid hgk; clear hgk
        have hq := hst.carry
        by_cases hq0 : q = 0
        · subst hq0
          have HST := Lib.hid hst; have HZB := Lib.hid hzb; have HIN := Lib.hid hin
          clear hst hzb hin
          go_wp2_with fail
          first | (refine bodyPost_end (v := .tuple #[]) (results_none rfl _ _ _) rfl ?_) | (refine bodyPost_ret (v := .tuple #[]) (results_none rfl _ _ _) rfl ?_)
          refine ⟨rfl, ?_⟩
          exact ⟨HIN.out, zt, HST.out.len, HST.out.dg, by have := HST.out.sum; rw [Nat.mul_zero, Nat.add_zero] at this; exact this, HZB.out⟩
        · obtain rfl : q = 1 := by omega
          by_cases hlt : k < m
          · have hzl : o + k < zt.length := by rw [hst.len]; omega
            have c3 : wr.cell? ⟨g, o + k, none⟩ = some (.int .u32 ((zt.getD (o + k) 0 : Nat) : Int)) := (hzb.cell (o + k)).trans (u32s_at _ _ hzl)
            have hzz := dig_at hst.dg (o + k)
            have f3 := hzb.frozen (o + k)
            have z1 := hzb.lt
            have HN := Lib.hid (hst.step (y := 0) (by omega) (by omega))
            have HA := Lib.hid (add32_any (zt.getD (o + k) 0) 0 1 hzz (by omega) (by omega))
            generalize zt.getD (o + k) 0 = z at *
            generalize (z + 0 + 1) % 4294967296 = s at *
            generalize (z + 0 + 1) / 4294967296 = cy at *
            have HZB := Lib.hid hzb; have HIN := Lib.hid hin
            clear hst hzb hin hzz
            have i2 : (k : Int) < (m : Int) := by omega
            go_wp2_with fail
            refine (HA.out _).mono ?_
            rintro e w1 ⟨rfl, rfl⟩
            go_wp2_with fail
            go_roundg (m - (k + 1))
            case rel =>
              refine ⟨k + 1, zt.set (o + k) s, cy, by omega, by omega, rfl, by go_num, rfl, ?_, ?_, HIN.out.set _ _⟩
              · have h := HN.out
                rw [Nat.mul_zero, Nat.add_zero] at h
                exact h
              · rw [← u32s_set]; exact HZB.out.set_ (o + k) _
            case measure => have := HG.out; omega
          · exfalso
            obtain rfl : k = m := by omega
            have h := hst.sum
            have h2 := HFIT.out
            rw [hm] at h
            omega
end Go.Proofs.YtpbapoanjkekmaaGreat
