/- The reference's arithmetic of magnitudes: trim, plus. -/
import Derived.Deep.RegionHeld3
import Derived.Test.YtnghlhcekghciaaGreatDoorZI
import Derived.Test.YtnghlhcekghciaaGreatDoorZX
namespace Go.Proofs.YtnghlhcekghciaaGreatDoor
open Go.RowKit

/-- digits at the head of a block of digits, whatever stands behind them -/
def NatK (w : World) (A : Option Addr) (ds : List Nat) : Prop := ds = [] ∨ ∃ g cs, A = some ⟨g, 0, none⟩ ∧ Blk w g 39 cs ∧ cs.toList.take ds.length = u32s ds
theorem NatK.reads {w : World} {A : Option Addr} {ds : List Nat} (h : NatK w A ds) : Reads w w.heap.size 1 A ds.length (u32s ds) := by
  rcases h with rfl | ⟨g, cs, rfl, hb, he⟩
  · exact Reads.none_
  · refine ⟨by simp [u32s], fun _ => ⟨g, 0, rfl, hb.lt, fun j u hu => ?_⟩⟩
    rw [Nat.zero_add, hb.cell]
    rw [← he, List.getElem?_take] at hu
    split at hu
    · simpa using hu
    · cases hu
theorem NatK.keep {w w' : World} {A : Option Addr} {ds : List Nat} (h : NatK w A ds) (hk : ∀ g cs, Blk w g 39 cs → Blk w' g 39 cs) : NatK w' A ds := by
  rcases h with rfl | ⟨g, cs, rfl, hb, he⟩
  · exact .inl rfl
  · exact .inr ⟨g, cs, rfl, hk _ _ hb, he⟩
theorem NatK.old {w w' : World} {A : Option Addr} {ds : List Nat} (h : NatK w A ds) (hb : Below w.heap.size w w') : NatK w' A ds := h.keep fun _ _ k => k.old hb
theorem NatK.of_own {w : World} {base n c : Nat} {A : Option Addr} {ds : List Nat} (h : w.ownsRow base 39 1 (.slice A n c) n (u32s ds)) : NatK w A ds := by
  have hl : ds.length = n := by have := h.1; simpa [u32s] using this
  rcases h.2 with ⟨_, h0⟩ | ⟨g, cap, cur, hv, hb, hh, _, _, _, ht⟩
  · exact .inl (List.eq_nil_of_length_eq_zero (by omega))
  · injection hv with hv
    subst hv
    refine .inr ⟨g, cur, rfl, hh, ?_⟩
    rw [hl]
    simpa using ht
/-- a result: the digits of v, in memory of the call's own -/
def NatResK (v : Nat) (w : World) (e : Ending) (w' : World) : Prop :=
  ∃ A c, e = .returned (.slice A (dig v).length c) ∧ (dig v).length ≤ c ∧ NatK w' A (dig v) ∧ Below w.heap.size w w'
theorem NatResK.nin {v c : Nat} {w' : World} {A : Option Addr} (h1 : (dig v).length ≤ c) (h2 : NatK w' A (dig v)) : NatIn w' w'.heap.size A c (dig v) := ⟨h2.reads, dig_dig _, h1⟩
theorem own_empty (w : World) (t : TypeId) : (w.alloc (.cells #[] t)).ownsRow w.heap.size t 1 (.slice (some ⟨w.heap.size, 0, none⟩) 0 0) 0 [] :=
  ⟨rfl, .inr ⟨w.heap.size, 0, #[], rfl, Nat.le_refl _, heap_alloc_new w _, Nat.le_refl _, Nat.zero_le _, rfl, rfl⟩⟩
theorem own_cap {w : World} {base n c size : Nat} {e : TypeId} {A : Option Addr} {xs : List Value} (h : w.ownsRow base e size (.slice A n c) n xs) : n ≤ c := by
  rcases h.2 with ⟨hv, h0⟩ | ⟨g, cap, cur, hv, _, _, h1, _⟩
  · omega
  · injection hv with _ _ hv
    omega

/-- a result: the digits of v, in a row of the call's own -/
def NatResO (v : Nat) (w : World) (e : Ending) (w' : World) : Prop :=
  ∃ A c, e = .returned (.slice A (dig v).length c) ∧ w'.ownsRow w.heap.size 39 1 (.slice A (dig v).length c) (dig v).length (u32s (dig v)) ∧ Below w.heap.size w w'
set_option maxHeartbeats 1000000 in
set_option maxRecDepth 100000 in
theorem RTrim_own (A : Option Addr) (c B : Nat) (ds : List Nat) (w : World) (hB : B ≤ w.heap.size) (h : NatIn w B A c ds) (hm : ds.length ≤ 1000000) :
    Calls Tryz.prog 50 #[.slice A ds.length c] w (NatResO (val ds) w) := by
  obtain ⟨i0, hi0, hz0, hz1, hz2⟩ := info_parts Tryz.infoU32
  have hr := h.rd
  have HD := Lib.hid h.dg
  have hc := h.cap
  clear h
  go_enter Tryz.func50, Tryz.ntmps50
  go_wp2
  go_loopg [3] ds.length (fun gn i wr => ∃ (k : Nat), k ≤ ds.length ∧ gn = k ∧ i = .int .i64 k ∧ (∀ j, k ≤ j → j < ds.length → ds.getD j 0 = 0) ∧ w = wr)
  case atStart => exact ⟨_, Nat.le_refl _, rfl, rfl, fun j h1 h2 => by omega, rfl⟩
  case round =>
    obtain ⟨k, hk, hgk, rfl, hz, rfl⟩ := hrel
    have HG := Lib.hid hgk; have HZ := Lib.hid hz
    clear hgk hz
    by_cases h0 : 0 < k
    · obtain ⟨k, rfl⟩ : ∃ k', k = k' + 1 := ⟨k - 1, by omega⟩
      obtain ⟨b1, o1, rfl, q1, c1⟩ := nat_at hr (k := k) (by omega)
      have i1 : (k : Int) < ds.length := by omega
      have i0' : (0 : Int) ≤ (k : Int) := by omega
      have i2 : (0 : Int) < ((k + 1 : Nat) : Int) := by omega
      have hkk : ((k + 1 : Nat) : Int) - 1 = (k : Int) := by omega
      by_cases hx : ds.getD k 0 = 0
      · have HX := Lib.hid hx
        rw [hx] at c1
        clear hx
        go_wp2
        go_roundg k
        case rel => exact ⟨k, by omega, rfl, by go_num, fun j h1 h2 => by
          by_cases h : j = k
          · subst h; exact HX.out
          · exact HZ.out j (by omega) h2, rfl⟩
        case measure => have := HG.out; omega
      · have HX := Lib.hid hx; clear hx
        have hb : (((ds.getD k 0 : Nat) : Int) == 0) = false := by have := HX.out; simp; exact this
        have HE := Lib.hid (trim_at HD.out hk HZ.out (.inr (by simpa using HX.out)))
        generalize ds.getD k 0 = x at *
        obtain ⟨n, hn⟩ : ∃ n, n = k + 1 := ⟨_, rfl⟩
        rw [← hn] at hk HE i2 hkk ⊢
        have HNK := Lib.hid hn
        have hrd : Reads (w.alloc (.cells #[] 39)) B 1 (some ⟨b1, o1, none⟩) n (u32s (ds.take n)) := by
          refine ⟨by simp [u32s]; omega, fun _ => ?_⟩
          obtain ⟨b, o, e, hb, hc⟩ := hr.2 (by omega)
          refine ⟨b, o, e, hb, fun j u hu => (((Below.refl B w).alloc hB _).cell (p := ⟨b, o + j, none⟩) hb).trans (hc j u ?_)⟩
          simp [u32s, List.getElem?_take] at hu ⊢
          exact hu.2
        rw [HE.out] at hrd
        have hlen := congrArg List.length HE.out
        rw [List.length_take, Nat.min_eq_left hk] at hlen
        have hown := own_empty w 39
        generalize hes : dig (val ds) = es at *
        have HES := Lib.hid hes
        have j1 : (n : Int) ≤ (c : Int) := by omega
        have h63 : 0 + n ≤ maxLen := by unfold maxLen; omega
        have hby : (0 + n) * 4 ≤ 140737488355328 := by omega
        have hbase : w.heap.size ≤ (w.alloc (.cells #[] 39)).heap.size := by simp
        have HLN := Lib.hid hlen
        clear hlen hn hes
        go_wp2_with (at_builtin; refine wpList_append_any _ rfl (.tmp 18) (.tmp 21) _ rfl w.heap.size 39 i0 _ 1 4 Tryz.underlying40 hi0 hz0 hz1 hz2 rfl (Nat.le_refl _) _ _ _ rfl hown B _ n _ _ rfl hrd (u32s_one es) h63 hby hbase ?_; intro v3 w3 hown3 hg3 hat3; refine Hid.out ?_)
        refine Lib.hid ?_
        rw [List.nil_append, Nat.zero_add] at hown3
        have hbl : Below w.heap.size w w3 := ((Below.refl _ w).alloc (Nat.le_refl _) _).grown hg3 hbase (fun k hk => (hown.lt k hk).1)
        obtain ⟨A3, c3, rfl⟩ := own_slice hown3
        have HO := Lib.hid hown3
        clear hown hown3 hg3 hat3 hrd
        go_wp2
        go_ret
        exact ⟨A3, c3, by rw [HES.out, ← HLN.out]; rfl, by rw [HES.out, ← HLN.out]; exact HO.out, hbl⟩
    · obtain rfl : k = 0 := by omega
      have HE := Lib.hid (trim_at HD.out hk HZ.out (.inl rfl))
      have hlen := congrArg List.length HE.out
      rw [List.length_take, Nat.min_eq_left hk] at hlen
      have hown := own_empty w 39
      have hde : dig (val ds) = [] := List.eq_nil_of_length_eq_zero hlen.symm
      have HDE := Lib.hid hde
      have hrd : Reads (w.alloc (.cells #[] 39)) B 1 A 0 (u32s []) := Reads.none_
      have h63 : 0 + 0 ≤ maxLen := by unfold maxLen; omega
      have hby : (0 + 0) * 4 ≤ 140737488355328 := by omega
      have hbase : w.heap.size ≤ (w.alloc (.cells #[] 39)).heap.size := by simp
      clear hlen hde
      rcases A with _ | ad
      all_goals
        go_wp2_with (at_builtin; go_loud (refine wpList_append_any _ rfl (.tmp 18) (.tmp 21) _ rfl w.heap.size 39 i0 _ 1 4 Tryz.underlying40 hi0 hz0 hz1 hz2 rfl (Nat.le_refl _) _ _ _ rfl hown B _ 0 _ _ rfl hrd (u32s_one []) h63 hby hbase ?_); intro v3 w3 hown3 hg3 hat3; refine Hid.out ?_)
        refine Lib.hid ?_
        rw [List.nil_append] at hown3
        have hbl : Below w.heap.size w w3 := ((Below.refl _ w).alloc (Nat.le_refl _) _).grown hg3 hbase (fun k hk => (hown.lt k hk).1)
        obtain ⟨A3, c3, rfl⟩ := own_slice hown3
        have HO := Lib.hid hown3
        clear hown hown3 hg3 hat3 hrd
        go_wp2
        go_ret
        refine ⟨A3, c3, by rw [HDE.out]; rfl, by rw [HDE.out]; exact HO.out, hbl⟩
theorem RTrim_any (A : Option Addr) (c B : Nat) (ds : List Nat) (w : World) (hB : B ≤ w.heap.size) (h : NatIn w B A c ds) (hm : ds.length ≤ 1000000) :
    Calls Tryz.prog 50 #[.slice A ds.length c] w (NatResK (val ds) w) :=
  (RTrim_own A c B ds w hB h hm).mono fun _ _ ⟨A', c', e, h1, h2⟩ => ⟨A', c', e, own_cap h1, NatK.of_own h1, h2⟩

/-- the sum so far: the digits below k, the carry -/
structure PlusSt (zs : List Nat) (cr k va vb : Nat) : Prop where
  len : zs.length = k
  dg : Dig zs
  sum : val zs + 4294967296 ^ k * cr = va + vb
  carry : cr ≤ 1
theorem PlusSt.step {zs : List Nat} {cr k va vb xa xb : Nat} (h : PlusSt zs cr k va vb) (hxa : xa < 4294967296) (hxb : xb < 4294967296) :
    PlusSt (zs ++ [(cr + xa + xb) % 4294967296]) ((cr + xa + xb) / 4294967296) (k + 1) (va + 4294967296 ^ k * xa) (vb + 4294967296 ^ k * xb) := by
  have hc := h.carry
  refine ⟨by simp [h.len], fun d hd => ?_, ?_, by omega⟩
  · rcases List.mem_append.1 hd with hd | hd
    · exact h.dg d hd
    · rw [List.mem_singleton] at hd; omega
  · have h0 := h.sum
    have hv := val_append zs [(cr + xa + xb) % 4294967296]
    rw [h.len] at hv
    simp only [val, Nat.mul_zero, Nat.add_zero] at hv
    rw [hv, Nat.pow_succ]
    generalize 4294967296 ^ k = p at *
    have e : (cr + xa + xb) % 4294967296 + 4294967296 * ((cr + xa + xb) / 4294967296) = cr + xa + xb := Nat.mod_add_div _ _
    have e2 : p * ((cr + xa + xb) % 4294967296 + 4294967296 * ((cr + xa + xb) / 4294967296)) = p * (cr + xa + xb) := by rw [e]
    rw [Nat.mul_add, Nat.mul_add, Nat.mul_add, ← Nat.mul_assoc] at e2
    omega
theorem val_take_out {ds : List Nat} {k : Nat} (hk : ds.length ≤ k) : val (ds.take (k + 1)) = val (ds.take k) + 4294967296 ^ k * 0 := by
  rw [List.take_of_length_le (by omega), List.take_of_length_le hk]; rfl

set_option maxHeartbeats 2000000 in
set_option maxRecDepth 100000 in
theorem RPlus_any (A A' : Option Addr) (c c' B : Nat) (a b : List Nat) (w : World) (hB : B ≤ w.heap.size) (h : NatIn w B A c a) (h' : NatIn w B A' c' b) (hm : a.length ≤ 100000) (hm' : b.length ≤ 100000) :
    Calls Tryz.prog 51 #[.slice A a.length c, .slice A' b.length c'] w (NatResK (val a + val b) w) := by
  obtain ⟨i0, hi0, hz0, hz1, hz2⟩ := info_parts Tryz.infoU32
  have r1 := h.rd; have r2 := h'.rd
  have G1 := Lib.hid h.dg; have G2 := Lib.hid h'.dg
  clear h h'
  go_enter Tryz.func51, Tryz.ntmps51
  go_wp2
  have hst0 : PlusSt [] 0 0 (val (a.take 0)) (val (b.take 0)) := ⟨rfl, by simp [Dig], rfl, by omega⟩
  have hown0 : w.ownsRow w.heap.size 39 1 (.slice none 0 0) 0 (u32s []) := ⟨rfl, .inl ⟨rfl, rfl⟩⟩
  go_loopg [5, 6, 7] (a.length + b.length + 2) (fun gn zv cv i wr => ∃ (k : Nat) (zs : List Nat) (cr : Nat), gn = a.length + b.length + 2 - k ∧ i = .int .i64 k ∧ cv = .int .u64 (cr : Int) ∧ PlusSt zs cr k (val (a.take k)) (val (b.take k)) ∧ k ≤ a.length + b.length + 1 ∧ (a.length < k → b.length < k → cr = 0) ∧ wr.ownsRow w.heap.size 39 1 zv k (u32s zs) ∧ Below w.heap.size w wr)
  case atStart => exact ⟨0, [], 0, rfl, rfl, rfl, hst0, by omega, fun _ _ => rfl, hown0, Below.refl _ _⟩
  case round =>
    clear hst0 hown0
    obtain ⟨k, zs, cr, hgk, rfl, rfl, hst, hk, hcz, hown, hbl⟩ := hrel
    have HG := Lib.hid hgk; have HCZ := Lib.hid hcz
    clear hgk hcz
    have hz := hbl.size
    have hcr := hst.carry
    by_cases hgo : k < a.length ∨ k < b.length ∨ 0 < cr
    · have HGO := Lib.hid hgo
      obtain ⟨xa, hxa, hta, hca⟩ : ∃ xa, xa < 4294967296 ∧ val (a.take (k + 1)) = val (a.take k) + 4294967296 ^ k * xa ∧ (k < a.length → ∃ b1 o1, A = some ⟨b1, o1, none⟩ ∧ wr.cell? ⟨b1, o1 + k, none⟩ = some (.int .u32 (xa : Int))) ∧ (a.length ≤ k → xa = 0) := by
        by_cases hka : k < a.length
        · refine ⟨a.getD k 0, dig_at G1.out k, val_take_succ hka, fun _ => ?_, fun h => by omega⟩
          obtain ⟨b1, o1, e, _, c1⟩ := nat_at (r1.below (hbl.mono hB)) hka
          exact ⟨b1, o1, e, c1⟩
        · exact ⟨0, by omega, val_take_out (by omega), fun h => absurd h hka, fun _ => rfl⟩
      obtain ⟨xb, hxb, htb, hcb⟩ : ∃ xb, xb < 4294967296 ∧ val (b.take (k + 1)) = val (b.take k) + 4294967296 ^ k * xb ∧ (k < b.length → ∃ b1 o1, A' = some ⟨b1, o1, none⟩ ∧ wr.cell? ⟨b1, o1 + k, none⟩ = some (.int .u32 (xb : Int))) ∧ (b.length ≤ k → xb = 0) := by
        by_cases hkb : k < b.length
        · refine ⟨b.getD k 0, dig_at G2.out k, val_take_succ hkb, fun _ => ?_, fun h => by omega⟩
          obtain ⟨b1, o1, e, _, c1⟩ := nat_at (r2.below (hbl.mono hB)) hkb
          exact ⟨b1, o1, e, c1⟩
        · exact ⟨0, by omega, val_take_out (by omega), fun h => absurd h hkb, fun _ => rfl⟩
      have hN := hst.step hxa hxb
      rw [← hta, ← htb] at hN
      have HN := Lib.hid hN
      have HCN := Lib.hid (show a.length < k + 1 → b.length < k + 1 → (cr + xa + xb) / 4294967296 = 0 from fun h1 h2 => by
        rw [hca.2 (by omega), hcb.2 (by omega)]; omega)
      have HCA := Lib.hid hca; have HCB := Lib.hid hcb
      have e1 : (((cr + xa + xb) / 4294967296 : Nat) : Int) = ((cr : Int) + (xa : Int) + (xb : Int)) / 4294967296 := by omega
      have e2 : (((cr + xa + xb) % 4294967296 : Nat) : Int) = ((cr : Int) + (xa : Int) + (xb : Int)) % 4294967296 := by omega
      have E1 := Lib.hid e1; have E2 := Lib.hid e2
      have HST := Lib.hid hst
      have hkz : zs.length = k := hst.len
      have HKZ := Lib.hid hkz
      clear hN hta htb hca hcb e1 e2 hst hgo hkz
      have h63 : k + 1 ≤ maxLen := by unfold maxLen; omega
      have hby : (k + 1) * 4 ≤ 140737488355328 := by omega
      by_cases hka : k < a.length <;> by_cases hkb : k < b.length
      · have j1 : (k : Int) < (a.length : Int) := by omega
        have j2 : (k : Int) < (b.length : Int) := by omega
        have i0' : (0 : Int) ≤ (k : Int) := by omega
        obtain ⟨b1, o1, rfl, c1⟩ := HCA.out.1 hka
        obtain ⟨b2, o2, rfl, c2⟩ := HCB.out.1 hkb
        have hown' := hown.alloc (.cells #[.int .u32 (((cr : Int) + (xa : Int) + (xb : Int)) % 4294967296)] 39)
        have hbase : w.heap.size ≤ (wr.alloc (.cells #[.int .u32 (((cr : Int) + (xa : Int) + (xb : Int)) % 4294967296)] 39)).heap.size := by simp; omega
        go_wp2_with (at_builtin; refine wpList_append_any _ rfl (.tmp 46) (.tmp 49) _ rfl w.heap.size 39 i0 _ 1 4 Tryz.underlying40 hi0 hz0 hz1 hz2 rfl (Nat.le_refl _) _ _ _ rfl hown' _ _ 1 1 _ rfl (Reads.one_new wr (.int .u32 (((cr : Int) + (xa : Int) + (xb : Int)) % 4294967296)) 39) (by intro u hu; simp at hu; subst hu; rfl) h63 hby hbase ?_; intro v3 w3 hown3 hg3 hat3; refine Hid.out ?_)
        refine Lib.hid ?_
        have hbl3 : Below w.heap.size w w3 := (hbl.alloc hz _).grown hg3 hbase (fun k hk => (hown'.lt k hk).1)
        have HO := Lib.hid hown3
        clear hown' hg3 hat3 hown hown3
        go_wp2
        go_roundg (a.length + b.length + 2 - (k + 1))
        case rel =>
          refine ⟨k + 1, _, _, rfl, by go_num, ?_, HN.out, by have := HGO.out; have := HCZ.out; omega, HCN.out, ?_, hbl3⟩
          · rw [E1.out]
          · have e9 : u32s (zs ++ [(cr + xa + xb) % 4294967296]) = u32s zs ++ [.int .u32 (((cr : Int) + (xa : Int) + (xb : Int)) % 4294967296)] := by
              rw [u32s, List.map_append, List.map_singleton, E2.out]; simp [u32s]
            rw [e9]
            exact HO.out
        case measure => have := HG.out; omega
      · have j1 : (k : Int) < (a.length : Int) := by omega
        have j2 : ¬ (k : Int) < (b.length : Int) := by omega
        have i0' : (0 : Int) ≤ (k : Int) := by omega
        obtain ⟨b1, o1, rfl, c1⟩ := HCA.out.1 hka
        obtain rfl : xb = 0 := HCB.out.2 (by omega)
        have hown' := hown.alloc (.cells #[.int .u32 (((cr : Int) + (xa : Int)) % 4294967296)] 39)
        have hbase : w.heap.size ≤ (wr.alloc (.cells #[.int .u32 (((cr : Int) + (xa : Int)) % 4294967296)] 39)).heap.size := by simp; omega
        go_wp2_with (at_builtin; refine wpList_append_any _ rfl (.tmp 46) (.tmp 49) _ rfl w.heap.size 39 i0 _ 1 4 Tryz.underlying40 hi0 hz0 hz1 hz2 rfl (Nat.le_refl _) _ _ _ rfl hown' _ _ 1 1 _ rfl (Reads.one_new wr (.int .u32 (((cr : Int) + (xa : Int)) % 4294967296)) 39) (by intro u hu; simp at hu; subst hu; rfl) h63 hby hbase ?_; intro v3 w3 hown3 hg3 hat3; refine Hid.out ?_)
        refine Lib.hid ?_
        have hbl3 : Below w.heap.size w w3 := (hbl.alloc hz _).grown hg3 hbase (fun k hk => (hown'.lt k hk).1)
        have HO := Lib.hid hown3
        clear hown' hg3 hat3 hown hown3
        go_wp2
        go_roundg (a.length + b.length + 2 - (k + 1))
        case rel =>
          refine ⟨k + 1, _, _, rfl, by go_num, ?_, HN.out, by have := HGO.out; have := HCZ.out; omega, HCN.out, ?_, hbl3⟩
          · rw [E1.out]; simp
          · have e9 : u32s (zs ++ [(cr + xa + 0) % 4294967296]) = u32s zs ++ [.int .u32 (((cr : Int) + (xa : Int)) % 4294967296)] := by
              rw [u32s, List.map_append, List.map_singleton, E2.out]; simp [u32s]
            rw [e9]
            exact HO.out
        case measure => have := HG.out; omega
      · have j1 : ¬ (k : Int) < (a.length : Int) := by omega
        have j2 : (k : Int) < (b.length : Int) := by omega
        have i0' : (0 : Int) ≤ (k : Int) := by omega
        obtain rfl : xa = 0 := HCA.out.2 (by omega)
        obtain ⟨b2, o2, rfl, c2⟩ := HCB.out.1 hkb
        have hown' := hown.alloc (.cells #[.int .u32 (((cr : Int) + (xb : Int)) % 4294967296)] 39)
        have hbase : w.heap.size ≤ (wr.alloc (.cells #[.int .u32 (((cr : Int) + (xb : Int)) % 4294967296)] 39)).heap.size := by simp; omega
        go_wp2_with (at_builtin; refine wpList_append_any _ rfl (.tmp 46) (.tmp 49) _ rfl w.heap.size 39 i0 _ 1 4 Tryz.underlying40 hi0 hz0 hz1 hz2 rfl (Nat.le_refl _) _ _ _ rfl hown' _ _ 1 1 _ rfl (Reads.one_new wr (.int .u32 (((cr : Int) + (xb : Int)) % 4294967296)) 39) (by intro u hu; simp at hu; subst hu; rfl) h63 hby hbase ?_; intro v3 w3 hown3 hg3 hat3; refine Hid.out ?_)
        refine Lib.hid ?_
        have hbl3 : Below w.heap.size w w3 := (hbl.alloc hz _).grown hg3 hbase (fun k hk => (hown'.lt k hk).1)
        have HO := Lib.hid hown3
        clear hown' hg3 hat3 hown hown3
        go_wp2
        go_roundg (a.length + b.length + 2 - (k + 1))
        case rel =>
          refine ⟨k + 1, _, _, rfl, by go_num, ?_, HN.out, by have := HGO.out; have := HCZ.out; omega, HCN.out, ?_, hbl3⟩
          · rw [E1.out]; simp
          · have e9 : u32s (zs ++ [(cr + 0 + xb) % 4294967296]) = u32s zs ++ [.int .u32 (((cr : Int) + (xb : Int)) % 4294967296)] := by
              rw [u32s, List.map_append, List.map_singleton, E2.out]; simp [u32s]
            rw [e9]
            exact HO.out
        case measure => have := HG.out; omega
      · have j1 : ¬ (k : Int) < (a.length : Int) := by omega
        have j2 : ¬ (k : Int) < (b.length : Int) := by omega
        have i0' : (0 : Int) ≤ (k : Int) := by omega
        obtain rfl : xa = 0 := HCA.out.2 (by omega)
        obtain rfl : xb = 0 := HCB.out.2 (by omega)
        have j3 : (0 : Int) < (cr : Int) := by have := HGO.out; omega
        have hown' := hown.alloc (.cells #[.int .u32 (cr : Int)] 39)
        have hbase : w.heap.size ≤ (wr.alloc (.cells #[.int .u32 (cr : Int)] 39)).heap.size := by simp; omega
        go_wp2_with (at_builtin; refine wpList_append_any _ rfl (.tmp 46) (.tmp 49) _ rfl w.heap.size 39 i0 _ 1 4 Tryz.underlying40 hi0 hz0 hz1 hz2 rfl (Nat.le_refl _) _ _ _ rfl hown' _ _ 1 1 _ rfl (Reads.one_new wr (.int .u32 (cr : Int)) 39) (by intro u hu; simp at hu; subst hu; rfl) h63 hby hbase ?_; intro v3 w3 hown3 hg3 hat3; refine Hid.out ?_)
        refine Lib.hid ?_
        have hbl3 : Below w.heap.size w w3 := (hbl.alloc hz _).grown hg3 hbase (fun k hk => (hown'.lt k hk).1)
        have HO := Lib.hid hown3
        clear hown' hg3 hat3 hown hown3
        go_wp2
        go_roundg (a.length + b.length + 2 - (k + 1))
        case rel =>
          refine ⟨k + 1, _, _, rfl, by go_num, ?_, HN.out, by have := HGO.out; have := HCZ.out; omega, HCN.out, ?_, hbl3⟩
          · rw [E1.out]; simp
          · have e9 : u32s (zs ++ [(cr + 0 + 0) % 4294967296]) = u32s zs ++ [.int .u32 (cr : Int)] := by
              rw [show (cr + 0 + 0) % 4294967296 = cr by omega]; simp [u32s]
            rw [e9]
            exact HO.out
        case measure => have := HG.out; omega
    · have n1 : ¬ (k : Int) < (a.length : Int) := by omega
      have n2 : ¬ (k : Int) < (b.length : Int) := by omega
      have n3 : ¬ (0 : Int) < (cr : Int) := by omega
      have hv : val zs = val a + val b := by
        have h0 := hst.sum
        rw [List.take_of_length_le (by omega), List.take_of_length_le (by omega), show cr = 0 by omega] at h0
        omega
      have hdz := hst.dg
      have hlz := hst.len
      obtain ⟨A3, c3, rfl⟩ := own_slice hown
      have hnk := NatK.of_own hown
      have hcp := own_cap hown
      have hRT := RTrim_any A3 c3 wr.heap.size zs wr (Nat.le_refl _) ⟨hnk.reads, hdz, by omega⟩ (by omega)
      rw [hv, hlz] at hRT
      have HRT := Lib.hid hRT
      clear hRT hv hdz hlz hnk hown hst hgo
      go_wp2_with fail
      refine HRT.out.mono ?_
      rintro e w4 ⟨A4, c4, rfl, h1, h2, h3⟩
      have HE := Lib.hid (And.intro h1 (And.intro h2 (hbl.trans (h3.mono hz))))
      clear h1 h2 h3
      go_wp2_with fail
      go_ret
      exact ⟨A4, c4, rfl, HE.out.1, HE.out.2.1, HE.out.2.2⟩
end Go.Proofs.YtnghlhcekghciaaGreatDoor

/- The reference's arithmetic of magnitudes: less, minus. -/
namespace Go.Proofs.YtnghlhcekghciaaGreatDoor
open Go.RowKit

set_option maxHeartbeats 1000000 in
theorem RLess_any (A A' : Option Addr) (c c' B x y : Nat) (w : World) (h : NatIn w B A c (dig x)) (h' : NatIn w B A' c' (dig y)) (hm : (dig x).length ≤ 1000000) :
    Calls Tryz.prog 22 #[.slice A (dig x).length c, .slice A' (dig y).length c'] w fun e w' => e = .returned (.bool (decide (x < y))) ∧ Drawn w w' := by
  have r1 := h.rd; have r2 := h'.rd
  have m1 := @dig_len_mono x y
  have m2 := @dig_len_mono y x
  have g1 := dig_dig x
  have g2 := dig_dig y
  have v1 := val_dig x
  have v2 := val_dig y
  clear h h'
  generalize dig x = a at *
  generalize dig y = b at *
  have M1 := Lib.hid m1; have M2 := Lib.hid m2; have G1 := Lib.hid g1; have G2 := Lib.hid g2; have V1 := Lib.hid v1; have V2 := Lib.hid v2
  clear m1 m2 g1 g2 v1 v2
  by_cases hlt : a.length < b.length
  · have HV := Lib.hid (show decide (x < y) = true by simpa using M1.out hlt)
    have e1 : ((a.length : Int) != (b.length : Int)) = true := by simp; omega
    have e2 : (a.length : Int) < (b.length : Int) := by omega
    go_enter Tryz.func22, Tryz.ntmps22
    go_wp2_with fail
    go_ret
    exact ⟨by rw [HV.out]; rfl, .refl _⟩
  by_cases hgt : b.length < a.length
  · have HV := Lib.hid (show decide (x < y) = false by have := M2.out hgt; simp; omega)
    have e1 : ((a.length : Int) != (b.length : Int)) = true := by simp; omega
    have e2 : ¬ (a.length : Int) < (b.length : Int) := by omega
    go_enter Tryz.func22, Tryz.ntmps22
    go_wp2_with fail
    go_ret
    exact ⟨by rw [HV.out]; rfl, .refl _⟩
  have hl : a.length = b.length := by omega
  have e1 : ((a.length : Int) != (b.length : Int)) = false := by simp; omega
  have HL := Lib.hid hl
  clear hlt hgt hl
  go_enter Tryz.func22, Tryz.ntmps22
  go_wp2_with fail
  go_loopg [5] a.length (fun gn i wr => ∃ (k : Nat), k ≤ a.length ∧ gn = k ∧ i = .int .i64 ((k : Int) - 1) ∧ (∀ j, k ≤ j → j < a.length → a.getD j 0 = b.getD j 0) ∧ Drawn w wr)
  case atStart => exact ⟨_, Nat.le_refl _, rfl, rfl, fun j h1 h2 => by omega, .refl _⟩
  case round =>
    obtain ⟨k, hk, hgk, rfl, hz, hdr⟩ := hrel
    have HG := Lib.hid hgk; clear hgk
    have HZ := Lib.hid hz; clear hz
    by_cases h0 : 0 < k
    · obtain ⟨k, rfl⟩ : ∃ k', k = k' + 1 := ⟨k - 1, by omega⟩
      have hlb := HL.out
      obtain ⟨b1, o1, rfl, q1, c1⟩ := nat_at (r1.drawn hdr) (k := k) (by omega)
      obtain ⟨b2, o2, rfl, q2, c2⟩ := nat_at (r2.drawn hdr) (k := k) (by omega)
      have i1 : (k : Int) < a.length := by omega
      have i2 : (k : Int) < b.length := by omega
      have i0 : (0 : Int) ≤ (k : Int) := by omega
      have ek : ((k + 1 : Nat) : Int) - 1 = (k : Int) := by omega
      clear hlb
      rw [ek]
      have HA := Lib.hid (@val_lt_at a b HL.out k (by omega) G1.out)
      have HB := Lib.hid (@val_lt_at b a HL.out.symm k (by omega) G2.out)
      generalize hxa : a.getD k 0 = xa at *
      generalize hxb : b.getD k 0 = xb at *
      have HXA := Lib.hid hxa; have HXB := Lib.hid hxb
      clear hxa hxb ek
      rcases Nat.lt_trichotomy xa xb with h | h | h
      · have hv : x < y := by
          rw [← V1.out, ← V2.out]
          exact HA.out (fun j h1 h2 => HZ.out j (by omega) h2) h
        have HV := Lib.hid (show decide (x < y) = true by simpa using hv)
        have f1 : ((xa : Int) != (xb : Int)) = true := by simp; omega
        have f2 : (xa : Int) < (xb : Int) := by omega
        clear hv h
        go_wp2
        go_quiet (fail)
        go_wp2
        go_quiet (fail)
        go_wp2
        go_ret
        exact ⟨by rw [HV.out]; rfl, (hdr.trans (.drewN _ _)).trans (.drewN _ _)⟩
      · subst h
        go_wp2
        go_quiet (fail)
        go_wp2
        go_roundg k
        case rel => exact ⟨k, by omega, rfl, rfl, fun j h1 h2 => by
          by_cases hj : j = k
          · subst hj; rw [HXA.out, HXB.out]
          · exact HZ.out j (by omega) h2, hdr.trans (.drewN _ _)⟩
        case measure => have := HG.out; omega
      · have hv : y < x := by
          rw [← V1.out, ← V2.out]
          exact HB.out (fun j h1 h2 => (HZ.out j (by omega) (by have := HL.out; omega)).symm) h
        have HV := Lib.hid (show decide (x < y) = false by simp; omega)
        have f1 : ((xa : Int) != (xb : Int)) = true := by simp; omega
        have f2 : ¬ (xa : Int) < (xb : Int) := by omega
        have HXX := Lib.hid (show decide (xa < xb) = false by simp; omega)
        clear hv h
        go_wp2
        go_quiet (fail)
        go_wp2
        go_quiet (fail)
        go_wp2
        go_ret
        exact ⟨by rw [HV.out, ← HXX.out]; rfl, (hdr.trans (.drewN _ _)).trans (.drewN _ _)⟩
    · obtain rfl : k = 0 := by omega
      have hv : x = y := by
        rw [← V1.out, ← V2.out, val_eq_of HL.out (fun j hj => HZ.out j (by omega) hj)]
      have HV := Lib.hid (show decide (x < y) = false by simp; omega)
      clear hv
      go_wp2
      go_ret
      exact ⟨by rw [HV.out]; rfl, hdr⟩

/-- the difference so far: the digits below k, the borrow -/
structure MinSt (zs : List Nat) (br k va vb : Nat) : Prop where
  len : zs.length = k
  dg : Dig zs
  sum : val zs + vb = va + 4294967296 ^ k * br
  carry : br ≤ 1
theorem MinSt.step {zs : List Nat} {br k va vb xa xb br' t : Nat} (h : MinSt zs br k va vb) (ht : t < 4294967296) (hb : br' ≤ 1) (he : t + (br + xb) = xa + 4294967296 * br') :
    MinSt (zs ++ [t]) br' (k + 1) (va + 4294967296 ^ k * xa) (vb + 4294967296 ^ k * xb) := by
  refine ⟨by simp [h.len], fun d hd => ?_, ?_, hb⟩
  · rcases List.mem_append.1 hd with hd | hd
    · exact h.dg d hd
    · rw [List.mem_singleton] at hd; rw [hd]; exact ht
  · have h0 := h.sum
    have hv := val_append zs [t]
    rw [h.len] at hv
    simp only [val, Nat.mul_zero, Nat.add_zero] at hv
    rw [hv, Nat.pow_succ]
    generalize 4294967296 ^ k = p at *
    have e2 : p * (t + (br + xb)) = p * (xa + 4294967296 * br') := by rw [he]
    rw [Nat.mul_add, Nat.mul_add, Nat.mul_add, ← Nat.mul_assoc] at e2
    omega
theorem min_set {zs a : List Nat} {k x : Nat} (hz : zs.length = k) (hk : k < a.length) : (zs ++ a.drop k).set k x = (zs ++ [x]) ++ a.drop (k + 1) := by
  rw [List.set_append_right _ _ (by omega), hz, Nat.sub_self, List.drop_eq_getElem_cons hk, List.set_cons_zero, List.append_assoc]
  rfl
theorem min_at {zs a : List Nat} {k : Nat} (hz : zs.length = k) (hk : k < a.length) : (u32s (zs ++ a.drop k))[k]? = some (.int .u32 ((a.getD k 0 : Nat) : Int)) := by
  unfold u32s
  rw [List.getElem?_map, List.getElem?_append_right (by omega), hz, Nat.sub_self, List.drop_eq_getElem_cons hk]
  simp [List.getElem?_eq_getElem hk]
theorem val_take_over {b : List Nat} {n : Nat} (h : b.length ≤ n) : val (b.take n) = val b := by rw [List.take_of_length_le h]

set_option maxHeartbeats 2000000 in
set_option maxRecDepth 100000 in
theorem RMinus_any (A A' : Option Addr) (c c' B : Nat) (a b : List Nat) (w : World) (hB : B ≤ w.heap.size) (h : NatIn w B A c a) (h' : NatIn w B A' c' b) (hm : a.length ≤ 100000) (hm' : b.length ≤ a.length) (hle : val b ≤ val a) :
    Calls Tryz.prog 52 #[.slice A a.length c, .slice A' b.length c'] w (NatResK (val a - val b) w) := by
  obtain ⟨i0, hi0, hz0, hz1, hz2⟩ := info_parts Tryz.infoU32
  have r1 := h.rd; have r2 := h'.rd
  have G1 := Lib.hid h.dg; have G2 := Lib.hid h'.dg
  have HLE := Lib.hid hle
  clear h h' hle
  have hown := own_empty w 39
  have hrd : Reads (w.alloc (.cells #[] 39)) B 1 A a.length (u32s a) := r1.below ((Below.refl B w).alloc hB _)
  have h63 : 0 + a.length ≤ maxLen := by unfold maxLen; omega
  have hby : (0 + a.length) * 4 ≤ 140737488355328 := by omega
  have hbase : w.heap.size ≤ (w.alloc (.cells #[] 39)).heap.size := by simp
  go_enter Tryz.func52, Tryz.ntmps52
  go_wp2_with (at_builtin; refine wpList_append_any _ rfl (.tmp 9) (.tmp 10) _ rfl w.heap.size 39 i0 _ 1 4 Tryz.underlying40 hi0 hz0 hz1 hz2 rfl (Nat.le_refl _) _ _ _ rfl hown B _ a.length _ _ rfl hrd (u32s_one a) h63 hby hbase ?_; intro v3 w3 hown3 hg3 hat3; refine Hid.out ?_)
  refine Lib.hid ?_
  rw [List.nil_append, Nat.zero_add] at hown3
  have hbl : Below w.heap.size w w3 := ((Below.refl _ w).alloc (Nat.le_refl _) _).grown hg3 hbase (fun k hk => (hown.lt k hk).1)
  have hmst : MinSt [] 0 0 (val (a.take 0)) (val (b.take 0)) := ⟨rfl, by simp [Dig], rfl, by omega⟩
  clear hown hg3 hat3 hrd h63 hby hbase
  obtain ⟨A3, c3, rfl⟩ := own_slice hown3
  have hown3' : w3.ownsRow w.heap.size 39 1 (.slice A3 a.length c3) a.length (u32s ([] ++ a.drop 0)) := by simpa using hown3
  clear hown3
  go_wp2_with fail
  go_loopg [6, 7, 8, 14] a.length (fun gn bv _ _ i wr => ∃ (k : Nat) (zs : List Nat) (br : Nat), k ≤ a.length ∧ gn = a.length - k ∧ i = .int .i64 k ∧ bv = .int .u64 (br : Int) ∧ MinSt zs br k (val (a.take k)) (val (b.take k)) ∧ wr.ownsRow w.heap.size 39 1 (.slice A3 a.length c3) a.length (u32s (zs ++ a.drop k)) ∧ Below w.heap.size w wr)
  case atStart => exact ⟨0, [], 0, by omega, rfl, rfl, rfl, hmst, hown3', hbl⟩
  case round =>
    clear hmst hown3' hbl
    obtain ⟨k, zs, br, hk, hgk, rfl, rfl, hst, hown, hbl⟩ := hrel
    have HG := Lib.hid hgk
    clear hgk
    have hz := hbl.size
    have hbr := hst.carry
    by_cases hlt : k < a.length
    · obtain ⟨g, cap, hv, hgb, hgl, _⟩ := own_form hown (by omega)
      injection hv with hv1 hv2 hv3
      subst hv1
      subst hv3
      have hxa := dig_at G1.out k
      have c1 : wr.cell? ⟨g, k, none⟩ = some (.int .u32 ((a.getD k 0 : Nat) : Int)) := by
        have := hown.cells (g := g) rfl k _ (min_at hst.len hlt)
        rwa [Addr.add_lit, Nat.zero_add] at this
      have f1 : wr.frozen? ⟨g, k, none⟩ = false := by
        rcases hown.2 with ⟨h1, _⟩ | ⟨g', cap', cur, h1, h2, h3, _⟩
        · cases h1
        · injection h1 with a1
          injection a1 with a1
          injection a1 with a1
          subst a1
          exact (show Blk wr g 39 cur from h3).frozen k
      have hta := val_take_succ hlt
      obtain ⟨xb, hxb, htb, hcb⟩ : ∃ xb, xb < 4294967296 ∧ val (b.take (k + 1)) = val (b.take k) + 4294967296 ^ k * xb ∧ (k < b.length → ∃ b1 o1, A' = some ⟨b1, o1, none⟩ ∧ wr.cell? ⟨b1, o1 + k, none⟩ = some (.int .u32 (xb : Int))) ∧ (b.length ≤ k → xb = 0) := by
        by_cases hkb : k < b.length
        · refine ⟨b.getD k 0, dig_at G2.out k, val_take_succ hkb, fun _ => ?_, fun h => by omega⟩
          obtain ⟨b1, o1, e, _, c1⟩ := nat_at (r2.below (hbl.mono hB)) hkb
          exact ⟨b1, o1, e, c1⟩
        · exact ⟨0, by omega, val_take_out (by omega), fun h => absurd h hkb, fun _ => rfl⟩
      have HPUT : Hid (∀ (t : Nat) (u : Int), u = (t : Int) → (wr.setCell ⟨g, k, none⟩ (.int .u32 u)).ownsRow w.heap.size 39 1 (.slice (some ⟨g, 0, none⟩) a.length c3) a.length (u32s ((zs ++ [t]) ++ a.drop (k + 1)))) := Lib.hid (fun t u hu => by
        have := own_put hown k (.int .u32 u)
        rw [← min_set (x := t) hst.len hlt]
        unfold u32s at this ⊢
        rw [List.map_set, ← hu]
        exact this)
      have HSTEP := Lib.hid (fun t br' => @MinSt.step zs br k (val (a.take k)) (val (b.take k)) (a.getD k 0) xb br' t hst)
      rw [← hta, ← htb] at HSTEP
      have HCB := Lib.hid hcb
      clear hta htb hcb
      have HST := Lib.hid hst
      have HOW := Lib.hid hown
      clear hst hown
      generalize a.getD k 0 = xa at *
      have j1 : (k : Int) < (a.length : Int) := by omega
      have j0 : (0 : Int) ≤ (k : Int) := by omega
      by_cases hkb : k < b.length
      · obtain ⟨b2, o2, rfl, c2⟩ := HCB.out.1 hkb
        have j2 : (k : Int) < (b.length : Int) := by omega
        clear HCB
        by_cases hlow : xa < br + xb
        · have l1 : (xa : Int) < (br : Int) + (xb : Int) := by omega
          obtain ⟨t, ht, he, hi⟩ : ∃ t : Nat, t < 4294967296 ∧ t + (br + xb) = xa + 4294967296 * 1 ∧ (xa : Int) + 4294967296 - ((br : Int) + (xb : Int)) = (t : Int) := ⟨xa + 4294967296 - (br + xb), by omega, by omega, by omega⟩
          have HN := Lib.hid (HSTEP.out t 1 ht (by omega) he)
          have HP := Lib.hid (HPUT.out t ((xa : Int) + 4294967296 - ((br : Int) + (xb : Int))) hi)
          clear HSTEP HPUT hlow ht he hi
          go_wp2_with fail
          go_roundg (a.length - (k + 1))
          case rel => exact ⟨k + 1, _, 1, by omega, rfl, by go_num, rfl, HN.out, HP.out, hbl.setCell (p := ⟨g, k, none⟩) hgb _⟩
          case measure => have := HG.out; omega
        · have l1 : ¬ (xa : Int) < (br : Int) + (xb : Int) := by omega
          obtain ⟨t, ht, he, hi⟩ : ∃ t : Nat, t < 4294967296 ∧ t + (br + xb) = xa + 4294967296 * 0 ∧ ((xa : Int) + 4294967296 - ((br : Int) + (xb : Int))) % 4294967296 = (t : Int) := ⟨xa - (br + xb), by omega, by omega, by omega⟩
          have HN := Lib.hid (HSTEP.out t 0 ht (by omega) he)
          have HP := Lib.hid (HPUT.out t (((xa : Int) + 4294967296 - ((br : Int) + (xb : Int))) % 4294967296) hi)
          clear HSTEP HPUT hlow ht he hi
          go_wp2_with fail
          go_roundg (a.length - (k + 1))
          case rel => exact ⟨k + 1, _, 0, by omega, rfl, by go_num, rfl, HN.out, HP.out, hbl.setCell (p := ⟨g, k, none⟩) hgb _⟩
          case measure => have := HG.out; omega
      · obtain rfl : xb = 0 := HCB.out.2 (by omega)
        have j2 : ¬ (k : Int) < (b.length : Int) := by omega
        clear HCB
        by_cases hlow : xa < br + 0
        · have l1 : (xa : Int) < (br : Int) := by omega
          obtain ⟨t, ht, he, hi⟩ : ∃ t : Nat, t < 4294967296 ∧ t + (br + 0) = xa + 4294967296 * 1 ∧ (xa : Int) + 4294967296 - ((br : Int)) = (t : Int) := ⟨xa + 4294967296 - (br + 0), by omega, by omega, by omega⟩
          have HN := Lib.hid (HSTEP.out t 1 ht (by omega) he)
          have HP := Lib.hid (HPUT.out t ((xa : Int) + 4294967296 - ((br : Int))) hi)
          clear HSTEP HPUT hlow ht he hi
          go_wp2_with fail
          go_roundg (a.length - (k + 1))
          case rel => exact ⟨k + 1, _, 1, by omega, rfl, by go_num, rfl, HN.out, HP.out, hbl.setCell (p := ⟨g, k, none⟩) hgb _⟩
          case measure => have := HG.out; omega
        · have l1 : ¬ (xa : Int) < (br : Int) := by omega
          obtain ⟨t, ht, he, hi⟩ : ∃ t : Nat, t < 4294967296 ∧ t + (br + 0) = xa + 4294967296 * 0 ∧ ((xa : Int) + 4294967296 - ((br : Int))) % 4294967296 = (t : Int) := ⟨xa - (br + 0), by omega, by omega, by omega⟩
          have HN := Lib.hid (HSTEP.out t 0 ht (by omega) he)
          have HP := Lib.hid (HPUT.out t (((xa : Int) + 4294967296 - ((br : Int))) % 4294967296) hi)
          clear HSTEP HPUT hlow ht he hi
          go_wp2_with fail
          go_roundg (a.length - (k + 1))
          case rel => exact ⟨k + 1, _, 0, by omega, rfl, by go_num, rfl, HN.out, HP.out, hbl.setCell (p := ⟨g, k, none⟩) hgb _⟩
          case measure => have := HG.out; omega
    · obtain rfl : k = a.length := by omega
      have hv : val zs = val a - val b := by
        have h0 := hst.sum
        rw [List.take_length, val_take_over hm'] at h0
        have h1 := val_lt hst.dg
        rw [hst.len] at h1
        have := HLE.out
        rcases Nat.eq_zero_or_pos br with hb0 | hb0
        · rw [hb0, Nat.mul_zero] at h0; omega
        · rw [show br = 1 by omega, Nat.mul_one] at h0; omega
      have hdz := hst.dg
      have hlz := hst.len
      rw [List.drop_length, List.append_nil] at hown
      have hnk := NatK.of_own hown
      have hcp := own_cap hown
      have hRT := RTrim_any A3 c3 wr.heap.size zs wr (Nat.le_refl _) ⟨hnk.reads, hdz, by omega⟩ (by omega)
      rw [hv, hlz] at hRT
      have HRT := Lib.hid hRT
      clear hRT hv hdz hlz hnk hown hst
      go_wp2_with fail
      refine HRT.out.mono ?_
      rintro e w4 ⟨A4, c4, rfl, h1, h2, h3⟩
      have HE := Lib.hid (And.intro h1 (And.intro h2 (hbl.trans (h3.mono hz))))
      clear h1 h2 h3
      go_wp2_with fail
      go_ret
      exact ⟨A4, c4, rfl, HE.out.1, HE.out.2.1, HE.out.2.2⟩
end Go.Proofs.YtnghlhcekghciaaGreatDoor

/- The reference's Add of two integers. -/
namespace Go.Proofs.YtnghlhcekghciaaGreatDoor
open Go.RowKit

/-- a result: the canonical form of z, in memory of the call's own -/
def IntResK (z : Int) (w : World) (e : Ending) (w' : World) : Prop :=
  ∃ A c, e = .returned (.agg #[.bool (decide (z < 0)), .slice A (dig z.natAbs).length c]) ∧ (dig z.natAbs).length ≤ c ∧ NatK w' A (dig z.natAbs) ∧ Below w.heap.size w w'
theorem NatK.far {w : World} {A : Option Addr} {ds : List Nat} (h : NatK w A ds) {g : Nat} {t : TypeId} {cs : Array Value} (hb : Blk w g t cs) (ht : t ≠ 39) (o : Nat) (u : Value) : NatK (w.setCell ⟨g, o, none⟩ u) A ds :=
  h.keep fun g' cs' k => k.far (by
    rintro rfl
    unfold Blk at k hb
    rw [k] at hb
    injection hb with hb
    injection hb with _ h1
    exact ht h1.symm) u
theorem NatK.two {w : World} {A : Option Addr} {ds : List Nat} (h : NatK w A ds) {g : Nat} {t : TypeId} {cs : Array Value} (hb : Blk w g t cs) (ht : t ≠ 39) (u v : Value) : NatK ((w.setCell ⟨g, 0, none⟩ u).setCell ⟨g, 1, none⟩ v) A ds :=
  (h.far hb ht 0 u).far (hb.set_ 0 u) ht 1 v
/-- what stands behind the two trims -/
def CutXY (W : World) (x y : Nat) (u v : Value) (wc : World) : Prop :=
  ∃ A1 c1 A2 c2, u = .slice A1 (dig x).length c1 ∧ v = .slice A2 (dig y).length c2 ∧ NatIn wc wc.heap.size A1 c1 (dig x) ∧ NatIn wc wc.heap.size A2 c2 (dig y) ∧ Below W.heap.size W wc
theorem CutXY.mk {W w2 : World} {x y : Nat} {A1 A2 : Option Addr} {c1 c2 : Nat} (h1 : (dig x).length ≤ c1) (h2 : NatK w2 A1 (dig x)) (k1 : (dig y).length ≤ c2) (k2 : NatK w2 A2 (dig y)) (hb : Below W.heap.size W w2) : CutXY W x y (.slice A1 (dig x).length c1) (.slice A2 (dig y).length c2) w2 :=
  ⟨A1, c1, A2, c2, rfl, rfl, NatResK.nin h1 h2, NatResK.nin k1 k2, hb⟩

/-- what stands behind the making of the sum -/
def OutAt (Z : World) (ng : Bool) (sm : Nat) (v : Value) (wc : World) : Prop :=
  ∃ g A c, v = .pointer (some ⟨g, 0, none⟩) ∧ Blk wc g 43 #[.bool ng, .slice A (dig sm).length c] ∧ (dig sm).length ≤ c ∧ NatK wc A (dig sm) ∧ Below Z.heap.size Z wc ∧ Z.heap.size ≤ g

theorem OutAt.a {Z w1 : World} {ng : Bool} {sm : Nat} {A : Option Addr} {c : Nat} (h1 : (dig sm).length ≤ c) (h2 : NatK w1 A (dig sm)) (hb : Below Z.heap.size Z w1) : OutAt Z ng sm (.pointer (some ⟨w1.heap.size, 0, none⟩)) (w1.alloc (.cells #[.bool ng, .slice A (dig sm).length c] 43)) :=
  ⟨_, A, c, rfl, Blk.new w1 _ _, h1, h2.keep fun _ _ k => k.alloc _, hb.alloc hb.size _, hb.size⟩
theorem OutAt.b {Z w1 : World} {ng : Bool} {sm g : Nat} {A : Option Addr} {c : Nat} {cs : Array Value} (h1 : (dig sm).length ≤ c) (h2 : NatK w1 A (dig sm)) (hb : Below Z.heap.size Z w1) (hg : Z.heap.size ≤ g) (hp : Blk w1 g 43 cs) (hc : cs.size = 2) :
    OutAt Z ng sm (.pointer (some ⟨g, 0, none⟩)) ((w1.setCell ⟨g, 0, none⟩ (.bool ng)).setCell ⟨g, 1, none⟩ (.slice A (dig sm).length c)) := by
  refine ⟨g, A, c, rfl, ?_, h1, h2.two hp (by decide) _ _, (hb.setCell hg _).setCell hg _, hg⟩
  have := (hp.set_ 0 (.bool ng)).set_ 1 (.slice A (dig sm).length c)
  obtain ⟨l⟩ := cs
  match l, hc with
  | [x, y], _ => simpa using this

set_option maxHeartbeats 1000000 in
set_option maxRecDepth 100000 in
theorem RAdd_same (ng : Bool) (A A' : Option Addr) (c c' B : Nat) (ds es : List Nat) (w : World) (hB : B ≤ w.heap.size) (h : NatIn w B A c ds) (h' : NatIn w B A' c' es) (hm : ds.length ≤ 100000) (hm' : es.length ≤ 100000) :
    Calls Tryz.prog 31 #[.agg #[.bool ng, .slice A ds.length c], .agg #[.bool ng, .slice A' es.length c']] w (IntResK (ival ng ds + ival ng es) w) := by
  have HX := Lib.hid (boxes3 w 43 43 43 #[.bool ng, .slice A ds.length c] #[.bool ng, .slice A' es.length c'] #[.bool false, .slice none 0 0])
  have HT1 := Lib.hid (fun (V : World) (hV : Below w.heap.size w V) => RTrim_any A c B ds V (Nat.le_trans hB hV.size) (h.below (hV.mono hB)) (by omega))
  have HT2 := Lib.hid (fun (V : World) (hV : Below w.heap.size w V) => RTrim_any A' c' B es V (Nat.le_trans hB hV.size) (h'.below (hV.mono hB)) (by omega))
  have HL1 := Lib.hid (show (dig (val ds)).length ≤ 100000 by have := dig_len_le h.dg; omega)
  have HL2 := Lib.hid (show (dig (val es)).length ≤ 100000 by have := dig_len_le h'.dg; omega)
  clear h h'
  unfold NatResK at HT1 HT2
  go_enter Tryz.func31, Tryz.ntmps31
  go_wp2_with fail
  generalize ((w.alloc (.cells #[.bool ng, .slice A ds.length c] 43)).alloc (.cells #[.bool ng, .slice A' es.length c'] 43)).alloc (.cells #[.bool false, .slice none 0 0] 43) = W at *
  obtain ⟨hb0, k0, k1, k2, hs⟩ := HX.out
  have HS := Lib.hid hs
  clear hs HX
  have c1 : W.cell? ⟨w.heap.size, 1, none⟩ = some (.slice A ds.length c) := k0.cell 1
  have c3 : W.cell? ⟨w.heap.size + 1, 1, none⟩ = some (.slice A' es.length c') := k1.cell 1
  have l0 := k0.lt; have l1 := k1.lt; have l2 := k2.lt
  have hWd : Below W.heap.size W W.drew := (Drawn.drew _).below _
  have hWw : Below W.heap.size W W := Below.refl _ _
  have KF := Lib.hid (fun (V : World) (hV : Below W.heap.size W V) => show Below W.heap.size W V ∧ V.cell? ⟨w.heap.size, 1, none⟩ = some (.slice A ds.length c) ∧ V.cell? ⟨w.heap.size + 1, 1, none⟩ = some (.slice A' es.length c') from ⟨hV, (hV.cell l0).trans c1, (hV.cell l1).trans c3⟩)
  have KB := Lib.hid (fun (V : World) (hV : Below W.heap.size W V) => hb0.trans (hV.mono hb0.size))
  go_cut [5, 6] (fun u v wc => CutXY W (val ds) (val es) u v wc)
  case first =>
    go_region_held3 (fun w' => Below W.heap.size W w' ∧ w'.cell? ⟨w.heap.size, 1, none⟩ = some (.slice A ds.length c) ∧ w'.cell? ⟨w.heap.size + 1, 1, none⟩ = some (.slice A' es.length c'))
      ((refine KF.out _ ?_; first | (with_reducible exact hWd) | (with_reducible exact hbB) | (with_reducible exact hbA) | (with_reducible exact hWw)))
      (first
        | (go_at_call 50; (first | (with_reducible refine (HT1.out _ (KB.out _ hWd)).mono ?_) | (with_reducible refine (HT1.out _ (KB.out _ hbB)).mono ?_)); rintro e w1 ⟨A1, c1', rfl, h1, h2, h3⟩; (first | (have h2B := NatK.old hk2 h3; have hbA := hbB.trans (h3.mono hbB.size)) | (have hbA := hWd.trans (h3.mono hWd.size))))
        | (go_at_call 50; (first | (with_reducible refine (HT2.out _ (KB.out _ hWd)).mono ?_) | (with_reducible refine (HT2.out _ (KB.out _ hbA)).mono ?_)); rintro e w2 ⟨A2, c2', rfl, g1, hk2, g3⟩; (first | (have h2A := NatK.old h2 g3; have hbB := hbA.trans (g3.mono hbA.size)) | (have hbB := hWd.trans (g3.mono hWd.size)))))
    all_goals go_wp2_with fail
    all_goals go_meet
    all_goals first | (with_reducible exact CutXY.mk h1 h2A g1 hk2 hbB) | (with_reducible exact CutXY.mk h1 h2 g1 h2B hbA)
  case rest =>
    obtain ⟨A1, c1', A2, c2', rfl, rfl, n1, n2, hbc⟩ := hcut
    have HPL := Lib.hid (fun (V : World) (hV : Below wc.heap.size wc V) => RPlus_any A1 A2 c1' c2' wc.heap.size (dig (val ds)) (dig (val es)) V hV.size (n1.below hV) (n2.below hV) HL1.out HL2.out)
    unfold NatResK at HPL
    rw [val_dig, val_dig] at HPL
    have d0 : wc.cell? ⟨w.heap.size, 0, none⟩ = some (.bool ng) := (hbc.cell l0).trans (k0.cell 0)
    have d1 : wc.cell? ⟨w.heap.size + 1, 0, none⟩ = some (.bool ng) := (hbc.cell l1).trans (k1.cell 0)
    have z0 := Nat.lt_of_lt_of_le l0 hbc.size
    have z1 := Nat.lt_of_lt_of_le l1 hbc.size
    have kr := k2.old hbc
    have hbw := hb0.trans (hbc.mono hb0.size)
    clear c1 c3 l0 l1 l2 hWd hWw KF KB k0 k1 k2 hbc n1 n2 HT1 HT2 hb0
    generalize hsm : val ds + val es = sm at *
    generalize (dig (val ds)).length = l1 at *
    generalize (dig (val es)).length = l2 at *
    obtain ⟨Z, hZ⟩ : ∃ Z, Z = wc := ⟨_, rfl⟩
    subst hZ
    have hZd : Below Z.heap.size Z Z.drew := (Drawn.drew _).below _
    have hZw : Below Z.heap.size Z Z := Below.refl _ _
    have hZa : Below Z.heap.size Z (Z.alloc (.cells #[.bool false, .slice none 0 0] 43)).drew := (hZw.alloc (Nat.le_refl _) _).trans ((Drawn.drew _).below _)
    have KF := Lib.hid (fun (V : World) (hV : Below Z.heap.size Z V) => show Below Z.heap.size Z V ∧ V.cell? ⟨w.heap.size, 0, none⟩ = some (.bool ng) from ⟨hV, (hV.cell z0).trans d0⟩)
    go_wp2_with fail
    go_cut [7] (fun v wc => OutAt Z ng sm v wc)
    case first =>
      go_region_held3 (fun w' => Below Z.heap.size Z w' ∧ w'.cell? ⟨w.heap.size, 0, none⟩ = some (.bool ng))
        ((refine KF.out _ ?_; repeat (first | (with_reducible exact hZd) | (with_reducible exact hZw) | (with_reducible exact hZa) | (with_reducible exact hb1) | (with_reducible refine Below.drew ?_) | ((with_reducible refine Below.alloc ?_ ?_ _); rotate_left; (first | exact Nat.le_refl _ | exact s1 | (simp; omega))) | ((with_reducible refine Below.setCell ?_ ?_ _); rotate_left; (first | exact Nat.le_refl _ | exact s1 | (simp; omega))))))
        ((go_at_call 51; (first | (with_reducible refine (HPL.out _ hZd).mono ?_) | (with_reducible refine (HPL.out _ hZa).mono ?_)); rintro e w1 ⟨A3, c3, rfl, h1, h2, h3⟩; (first | (have hb1 := hZd.trans (h3.mono hZd.size)) | (have hb1 := hZa.trans (h3.mono hZa.size); have p1 := Blk.old (show Blk (Z.alloc (.cells #[.bool false, .slice none 0 0] 43)).drew Z.heap.size 43 #[.bool false, .slice none 0 0] from Blk.new Z _ _) h3; have e0 : w1.cell? ⟨Z.heap.size, 0, none⟩ = some (.bool false) := p1.cell 0; have e1 : w1.cell? ⟨Z.heap.size, 1, none⟩ = some (.slice none 0 0) := p1.cell 1; have f0 := p1.frozen 0; have f1 := p1.frozen 1; have z9 := p1.lt)); have s1 := hb1.size))
      all_goals go_wp2_with fail
      all_goals go_meet
      all_goals first | (with_reducible exact OutAt.a h1 h2 hb1) | (with_reducible exact OutAt.b h1 h2 hb1 (Nat.le_refl _) p1 rfl)
    case rest =>
      obtain ⟨g, A3, c3, rfl, kg, h1, h2, hbz, hgz⟩ := hcut
      have HE := Lib.hid (iadd_same ng ds es)
      have HSM' := Lib.hid hsm
      have kq := kr.old hbz
      have e0 : wc.cell? ⟨g, 0, none⟩ = some (.bool ng) := kg.cell 0
      have e1 : wc.cell? ⟨g, 1, none⟩ = some (.slice A3 (dig sm).length c3) := kg.cell 1
      have e2 : wc.cell? ⟨w.heap.size, 0, none⟩ = some (.bool ng) := (hbz.cell z0).trans d0
      have e3 : wc.cell? ⟨w.heap.size + 1, 0, none⟩ = some (.bool ng) := (hbz.cell z1).trans d1
      have q0 : wc.cell? ⟨w.heap.size + 2, 0, none⟩ = some (.bool false) := kq.cell 0
      have q1 : wc.cell? ⟨w.heap.size + 2, 1, none⟩ = some (.slice none 0 0) := kq.cell 1
      have f0 := kq.frozen 0; have f1 := kq.frozen 1
      have y0 := Nat.lt_of_lt_of_le z0 hbz.size
      have y1 := Nat.lt_of_lt_of_le z1 hbz.size
      have y2 := kq.lt; have y3 := kg.lt
      have hbw' := hbw.trans (hbz.mono hbw.size)
      have hng : (ng != ng) = false := by simp
      clear KF hZd hZw hZa d0 d1 z0 z1 kr hbw hbz HPL hsm
      by_cases h0 : (dig sm).length = 0
      · have h0b : (((dig sm).length : Int) == 0) = true := by simp [h0]
        have HSZ := Lib.hid (dig_len0.1 h0)
        clear h0
        go_wp2_with fail
        have hz : (ival ng ds + ival ng es).natAbs = 0 := by rw [HE.out.1, HSM'.out, HSZ.out]
        exact ret_blk Tryz.results31 rfl rfl ((kq.set_ 0 _).set_ 1 _) Tryz.underlying43 rfl Tryz.sizeInt ⟨none, 0, by rw [show ival ng ds + ival ng es = 0 by omega]; simp [dig_zero], by rw [hz, dig_zero]; exact Nat.le_refl _, by rw [hz, dig_zero]; exact .inl rfl, (hbw'.setCell (Nat.le_add_right _ 2) _).setCell (Nat.le_add_right _ 2) _⟩
      · have h0b : (((dig sm).length : Int) == 0) = false := by simpa using h0
        have H0 := Lib.hid h0
        clear h0
        go_wp2_with fail
        exact ret_blk Tryz.results31 rfl rfl ((kq.set_ 0 _).set_ 1 _) Tryz.underlying43 rfl Tryz.sizeInt ⟨A3, c3, by rw [HE.out.1, HE.out.2, HSM'.out, show decide (0 < (dig sm).length) = true by have := H0.out; simp; omega, Bool.and_true]; rfl, by rw [HE.out.1, HSM'.out]; exact h1, by rw [HE.out.1, HSM'.out]; exact h2.two kq (by decide) _ _, (hbw'.setCell (Nat.le_add_right _ 2) _).setCell (Nat.le_add_right _ 2) _⟩

set_option maxHeartbeats 1000000 in
set_option maxRecDepth 100000 in
theorem RAdd_other (ng : Bool) (A A' : Option Addr) (c c' B : Nat) (ds es : List Nat) (w : World) (hB : B ≤ w.heap.size) (h : NatIn w B A c ds) (h' : NatIn w B A' c' es) (hm : ds.length ≤ 100000) (hm' : es.length ≤ 100000) :
    Calls Tryz.prog 31 #[.agg #[.bool ng, .slice A ds.length c], .agg #[.bool (!ng), .slice A' es.length c']] w (IntResK (ival ng ds + ival (!ng) es) w) := by
  have hng : (ng != !ng) = true := by cases ng <;> rfl
  have hne : ¬ ng = !ng := by cases ng <;> simp
  have hnb : (ng == !ng) = false := by cases ng <;> rfl
  have HGE := Lib.hid (fun hh => iadd_ge ng ds es hh); have HLT := Lib.hid (fun hh => iadd_lt ng ds es hh)
  generalize hngp : (!ng) = ng' at *
  have HNG := Lib.hid hngp; clear hngp
  have HX := Lib.hid (boxes3 w 43 43 43 #[.bool ng, .slice A ds.length c] #[.bool ng', .slice A' es.length c'] #[.bool false, .slice none 0 0])
  have HT1 := Lib.hid (fun (V : World) (hV : Below w.heap.size w V) => RTrim_any A c B ds V (Nat.le_trans hB hV.size) (h.below (hV.mono hB)) (by omega))
  have HT2 := Lib.hid (fun (V : World) (hV : Below w.heap.size w V) => RTrim_any A' c' B es V (Nat.le_trans hB hV.size) (h'.below (hV.mono hB)) (by omega))
  have HL1 := Lib.hid (show (dig (val ds)).length ≤ 100000 by have := dig_len_le h.dg; omega)
  have HL2 := Lib.hid (show (dig (val es)).length ≤ 100000 by have := dig_len_le h'.dg; omega)
  clear h h'
  unfold NatResK at HT1 HT2
  go_enter Tryz.func31, Tryz.ntmps31
  go_wp2_with fail
  generalize ((w.alloc (.cells #[.bool ng, .slice A ds.length c] 43)).alloc (.cells #[.bool ng', .slice A' es.length c'] 43)).alloc (.cells #[.bool false, .slice none 0 0] 43) = W at *
  obtain ⟨hb0, k0, k1, k2, hs⟩ := HX.out
  have HS := Lib.hid hs
  clear hs HX
  have c1 : W.cell? ⟨w.heap.size, 1, none⟩ = some (.slice A ds.length c) := k0.cell 1
  have c3 : W.cell? ⟨w.heap.size + 1, 1, none⟩ = some (.slice A' es.length c') := k1.cell 1
  have l0 := k0.lt; have l1 := k1.lt; have l2 := k2.lt
  have hWd : Below W.heap.size W W.drew := (Drawn.drew _).below _
  have hWw : Below W.heap.size W W := Below.refl _ _
  have KF := Lib.hid (fun (V : World) (hV : Below W.heap.size W V) => show Below W.heap.size W V ∧ V.cell? ⟨w.heap.size, 1, none⟩ = some (.slice A ds.length c) ∧ V.cell? ⟨w.heap.size + 1, 1, none⟩ = some (.slice A' es.length c') from ⟨hV, (hV.cell l0).trans c1, (hV.cell l1).trans c3⟩)
  have KB := Lib.hid (fun (V : World) (hV : Below W.heap.size W V) => hb0.trans (hV.mono hb0.size))
  go_cut [5, 6] (fun u v wc => CutXY W (val ds) (val es) u v wc)
  case first =>
    go_region_held3 (fun w' => Below W.heap.size W w' ∧ w'.cell? ⟨w.heap.size, 1, none⟩ = some (.slice A ds.length c) ∧ w'.cell? ⟨w.heap.size + 1, 1, none⟩ = some (.slice A' es.length c'))
      ((refine KF.out _ ?_; first | (with_reducible exact hWd) | (with_reducible exact hbB) | (with_reducible exact hbA) | (with_reducible exact hWw)))
      (first
        | (go_at_call 50; (first | (with_reducible refine (HT1.out _ (KB.out _ hWd)).mono ?_) | (with_reducible refine (HT1.out _ (KB.out _ hbB)).mono ?_)); rintro e w1 ⟨A1, c1', rfl, h1, h2, h3⟩; (first | (have h2B := NatK.old hk2 h3; have hbA := hbB.trans (h3.mono hbB.size)) | (have hbA := hWd.trans (h3.mono hWd.size))))
        | (go_at_call 50; (first | (with_reducible refine (HT2.out _ (KB.out _ hWd)).mono ?_) | (with_reducible refine (HT2.out _ (KB.out _ hbA)).mono ?_)); rintro e w2 ⟨A2, c2', rfl, g1, hk2, g3⟩; (first | (have h2A := NatK.old h2 g3; have hbB := hbA.trans (g3.mono hbA.size)) | (have hbB := hWd.trans (g3.mono hWd.size)))))
    all_goals go_wp2_with fail
    all_goals go_meet
    all_goals first | (with_reducible exact CutXY.mk h1 h2A g1 hk2 hbB) | (with_reducible exact CutXY.mk h1 h2 g1 h2B hbA)
  case rest =>
    obtain ⟨A1, c1', A2, c2', rfl, rfl, n1, n2, hbc⟩ := hcut
    have HPL := Lib.hid (fun (V : World) (hV : Below wc.heap.size wc V) => RPlus_any A1 A2 c1' c2' wc.heap.size (dig (val ds)) (dig (val es)) V hV.size (n1.below hV) (n2.below hV) HL1.out HL2.out)
    unfold NatResK at HPL
    rw [val_dig, val_dig] at HPL
    have d0 : wc.cell? ⟨w.heap.size, 0, none⟩ = some (.bool ng) := (hbc.cell l0).trans (k0.cell 0)
    have d1 : wc.cell? ⟨w.heap.size + 1, 0, none⟩ = some (.bool ng') := (hbc.cell l1).trans (k1.cell 0)
    have z0 := Nat.lt_of_lt_of_le l0 hbc.size
    have z1 := Nat.lt_of_lt_of_le l1 hbc.size
    have kr := k2.old hbc
    have hbw := hb0.trans (hbc.mono hb0.size)
    have N1 := Lib.hid n1; have N2 := Lib.hid n2
    clear c1 c3 l0 l1 l2 hWd hWw KF KB k0 k1 k2 hbc n1 n2 HT1 HT2 hb0
    generalize hsm : val ds + val es = sm at *
    have HLE := Lib.hid (fun (V : World) (hV : Below wc.heap.size wc V) => RLess_any A1 A2 c1' c2' V.heap.size (val ds) (val es) V ((N1.out.below hV).more hV.size) ((N2.out.below hV).more hV.size) (by have := HL1.out; omega))
    have HMI := Lib.hid (fun (hh : val es ≤ val ds) (V : World) (hV : Below wc.heap.size wc V) => RMinus_any A1 A2 c1' c2' wc.heap.size (dig (val ds)) (dig (val es)) V hV.size (N1.out.below hV) (N2.out.below hV) HL1.out (by
      rcases Nat.lt_or_ge (dig (val ds)).length (dig (val es)).length with h | h
      · have := dig_len_mono h; omega
      · exact h) (by rw [val_dig, val_dig]; exact hh))
    have HMJ := Lib.hid (fun (hh : val ds < val es) (V : World) (hV : Below wc.heap.size wc V) => RMinus_any A2 A1 c2' c1' wc.heap.size (dig (val es)) (dig (val ds)) V hV.size (N2.out.below hV) (N1.out.below hV) HL2.out (by
      rcases Nat.lt_or_ge (dig (val es)).length (dig (val ds)).length with h | h
      · have := dig_len_mono h; omega
      · exact h) (by rw [val_dig, val_dig]; omega))
    unfold NatResK at HMI HMJ
    rw [val_dig, val_dig] at HMI HMJ
    generalize (dig (val ds)).length = l1 at *
    generalize (dig (val es)).length = l2 at *
    obtain ⟨Z, hZ⟩ : ∃ Z, Z = wc := ⟨_, rfl⟩
    subst hZ
    have hZd : Below Z.heap.size Z Z.drew := (Drawn.drew _).below _
    have hZw : Below Z.heap.size Z Z := Below.refl _ _
    have hZa : Below Z.heap.size Z (Z.alloc (.cells #[.bool false, .slice none 0 0] 43)).drew := (hZw.alloc (Nat.le_refl _) _).trans ((Drawn.drew _).below _)
    have KF := Lib.hid (fun (V : World) (hV : Below Z.heap.size Z V) => show Below Z.heap.size Z V ∧ V.cell? ⟨w.heap.size, 0, none⟩ = some (.bool ng) from ⟨hV, (hV.cell z0).trans d0⟩)
    go_wp2_with fail
    go_cut [7] (fun v wc => OutAt Z ng sm v wc)
    case first =>
      go_region_held3 (fun w' => Below Z.heap.size Z w' ∧ w'.cell? ⟨w.heap.size, 0, none⟩ = some (.bool ng))
        ((refine KF.out _ ?_; repeat (first | (with_reducible exact hZd) | (with_reducible exact hZw) | (with_reducible exact hZa) | (with_reducible exact hb1) | (with_reducible refine Below.drew ?_) | ((with_reducible refine Below.alloc ?_ ?_ _); rotate_left; (first | exact Nat.le_refl _ | exact s1 | (simp; omega))) | ((with_reducible refine Below.setCell ?_ ?_ _); rotate_left; (first | exact Nat.le_refl _ | exact s1 | (simp; omega))))))
        ((go_at_call 51; (first | (with_reducible refine (HPL.out _ hZd).mono ?_) | (with_reducible refine (HPL.out _ hZa).mono ?_)); rintro e w1 ⟨A3, c3, rfl, h1, h2, h3⟩; (first | (have hb1 := hZd.trans (h3.mono hZd.size)) | (have hb1 := hZa.trans (h3.mono hZa.size); have p1 := Blk.old (show Blk (Z.alloc (.cells #[.bool false, .slice none 0 0] 43)).drew Z.heap.size 43 #[.bool false, .slice none 0 0] from Blk.new Z _ _) h3; have e0 : w1.cell? ⟨Z.heap.size, 0, none⟩ = some (.bool false) := p1.cell 0; have e1 : w1.cell? ⟨Z.heap.size, 1, none⟩ = some (.slice none 0 0) := p1.cell 1; have f0 := p1.frozen 0; have f1 := p1.frozen 1; have z9 := p1.lt)); have s1 := hb1.size))
      all_goals go_wp2_with fail
      all_goals go_meet
      all_goals first | (with_reducible exact OutAt.a h1 h2 hb1) | (with_reducible exact OutAt.b h1 h2 hb1 (Nat.le_refl _) p1 rfl)
    case rest =>
      obtain ⟨g, A3, c3, rfl, kg, h1, h2, hbz, hgz⟩ := hcut
      have e2 : wc.cell? ⟨w.heap.size, 0, none⟩ = some (.bool ng) := (hbz.cell z0).trans d0
      have e3 : wc.cell? ⟨w.heap.size + 1, 0, none⟩ = some (.bool ng') := (hbz.cell z1).trans d1
      have y0 := Nat.lt_of_lt_of_le z0 hbz.size
      have y1 := Nat.lt_of_lt_of_le z1 hbz.size
      have y3 := kg.lt
      have HLE' := Lib.hid (HLE.out wc hbz)
      clear KF hZd hZw hZa HPL hsm HLE h1 h2
      by_cases hlt : val ds < val es
      · have HD := Lib.hid (show decide (val ds < val es) = true by simpa using hlt)
        have HE := Lib.hid (HLT.out hlt)
        have HM := Lib.hid (HMJ.out hlt)
        generalize hsb : val es - val ds = sb at *
        have HSM' := Lib.hid hsb
        rw [HD.out] at HLE'
        clear HMI HMJ hlt hsb HGE HLT
        go_wp2_with fail
        refine HLE'.out.mono ?_
        rintro e wd ⟨rfl, hdr⟩
        have kg' := kg.drawn hdr
        have hbz' := hbz.trans (hdr.below _)
        have x2 : wd.cell? ⟨w.heap.size, 0, none⟩ = some (.bool ng) := (hdr.cell _).trans e2
        have x3 : wd.cell? ⟨w.heap.size + 1, 0, none⟩ = some (.bool ng') := (hdr.cell _).trans e3
        have x4 := kg'.lt
        have x0 : w.heap.size < wd.heap.size := by rw [hdr.heap]; exact y0
        have x1 : w.heap.size + 1 < wd.heap.size := by rw [hdr.heap]; exact y1
        clear kg hbz e2 e3 y0 y1 y3 hdr HLE'
        go_wp2_with fail
        have hWd : Below wd.heap.size wd wd.drew := (Drawn.drew _).below _
        have hZd := hbz'.trans ((Drawn.drew wd).below _)
        have hWw : Below wd.heap.size wd wd := Below.refl _ _
        have KF := Lib.hid (fun (V : World) (hV : Below Z.heap.size Z V) => show Below Z.heap.size Z V ∧ V.cell? ⟨w.heap.size + 1, 0, none⟩ = some (.bool ng') from ⟨hV, (hV.cell z1).trans d1⟩)
        go_region_held3 (fun w' => Below Z.heap.size Z w' ∧ w'.cell? ⟨w.heap.size + 1, 0, none⟩ = some (.bool ng'))
          ((refine KF.out _ ?_; first | (with_reducible exact hZd) | (with_reducible exact hbz') | (with_reducible exact hbz1) | (with_reducible exact hbz3)))
          ((go_at_call 52; (with_reducible refine (HM.out _ hZd).mono ?_); rintro e w1 ⟨A4, c4, rfl, h1, h2, h3⟩; have hbz1 := hZd.trans (h3.mono hZd.size); have hbz3 := (hbz1.setCell (p := ⟨g, 0, none⟩) hgz (.bool ng')).setCell (p := ⟨g, 1, none⟩) hgz (.slice A4 (dig sb).length c4); have hb1 := hWd.trans (h3.mono hWd.size); have p1 := Blk.old (show Blk wd.drew g 43 _ from kg') h3; have e0 : w1.cell? ⟨g, 0, none⟩ = some (.bool ng) := p1.cell 0; have e1 : w1.cell? ⟨g, 1, none⟩ = some (.slice A3 (dig sm).length c3) := p1.cell 1; have f0 := p1.frozen 0; have f1 := p1.frozen 1; have z9 := p1.lt; have s1 := hb1.size))
        have hfin := OutAt.b (Z := Z) (ng := ng') (g := g) h1 h2 (hZd.trans (h3.mono hZd.size)) hgz p1 rfl
        generalize (w1.setCell ⟨g, 0, none⟩ (.bool ng')).setCell ⟨g, 1, none⟩ (.slice A4 (dig sb).length c4) = wc at *
        clear kg' hbz' x0 x1 x2 x3 x4 hWd hZd hWw KF HM h1 h2 h3 hb1 hbz1 hbz3 p1 e0 e1 f0 f1 z9 s1
        obtain ⟨g5, A3, c3, hg5, kg, h1, h2, hbz, hgz⟩ := hfin
        injection hg5 with hg5
        injection hg5 with hg5
        injection hg5 with hg5
        subst hg5
        have kq := kr.old hbz
        have e0 : wc.cell? ⟨g, 0, none⟩ = some (.bool ng') := kg.cell 0
        have e1 : wc.cell? ⟨g, 1, none⟩ = some (.slice A3 (dig sb).length c3) := kg.cell 1
        have e2 : wc.cell? ⟨w.heap.size, 0, none⟩ = some (.bool ng) := (hbz.cell z0).trans d0
        have e3 : wc.cell? ⟨w.heap.size + 1, 0, none⟩ = some (.bool ng') := (hbz.cell z1).trans d1
        have q0 : wc.cell? ⟨w.heap.size + 2, 0, none⟩ = some (.bool false) := kq.cell 0
        have q1 : wc.cell? ⟨w.heap.size + 2, 1, none⟩ = some (.slice none 0 0) := kq.cell 1
        have f0 := kq.frozen 0; have f1 := kq.frozen 1
        have y0 := Nat.lt_of_lt_of_le z0 hbz.size
        have y1 := Nat.lt_of_lt_of_le z1 hbz.size
        have y2 := kq.lt; have y3 := kg.lt
        have hbw' := hbw.trans (hbz.mono hbw.size)
        clear d0 d1 z0 z1 kr hbw hbz
        by_cases h0 : (dig sb).length = 0
        · have h0b : (((dig sb).length : Int) == 0) = true := by simp [h0]
          have HSZ := Lib.hid (dig_len0.1 h0)
          clear h0
          go_wp2_with fail
          have hz : (ival ng ds + ival ng' es).natAbs = 0 := by rw [HE.out.1, HSZ.out]
          exact ret_blk Tryz.results31 rfl rfl ((kq.set_ 0 _).set_ 1 _) Tryz.underlying43 rfl Tryz.sizeInt ⟨none, 0, by rw [show ival ng ds + ival ng' es = 0 by omega]; simp [dig_zero], by rw [hz, dig_zero]; exact Nat.le_refl _, by rw [hz, dig_zero]; exact .inl rfl, (hbw'.setCell (Nat.le_add_right _ 2) _).setCell (Nat.le_add_right _ 2) _⟩
        · have h0b : (((dig sb).length : Int) == 0) = false := by simpa using h0
          have H0 := Lib.hid h0
          clear h0
          go_wp2_with fail
          exact ret_blk Tryz.results31 rfl rfl ((kq.set_ 0 _).set_ 1 _) Tryz.underlying43 rfl Tryz.sizeInt ⟨A3, c3, by rw [HE.out.1, HE.out.2, show decide (0 < (dig sb).length) = true by have := H0.out; simp; omega, Bool.and_true]; rfl, by rw [HE.out.1]; exact h1, by rw [HE.out.1]; exact h2.two kq (by decide) _ _, (hbw'.setCell (Nat.le_add_right _ 2) _).setCell (Nat.le_add_right _ 2) _⟩
      · have HD := Lib.hid (show decide (val ds < val es) = false by simp; omega)
        have HE := Lib.hid (HGE.out (by omega))
        have HM := Lib.hid (HMI.out (by omega))
        generalize hsb : val ds - val es = sb at *
        have HSM' := Lib.hid hsb
        rw [HD.out] at HLE'
        clear HMI HMJ hlt hsb HGE HLT
        go_wp2_with fail
        refine HLE'.out.mono ?_
        rintro e wd ⟨rfl, hdr⟩
        have kg' := kg.drawn hdr
        have hbz' := hbz.trans (hdr.below _)
        have x2 : wd.cell? ⟨w.heap.size, 0, none⟩ = some (.bool ng) := (hdr.cell _).trans e2
        have x3 : wd.cell? ⟨w.heap.size + 1, 0, none⟩ = some (.bool ng') := (hdr.cell _).trans e3
        have x4 := kg'.lt
        have x0 : w.heap.size < wd.heap.size := by rw [hdr.heap]; exact y0
        have x1 : w.heap.size + 1 < wd.heap.size := by rw [hdr.heap]; exact y1
        clear kg hbz e2 e3 y0 y1 y3 hdr HLE'
        go_wp2_with fail
        have hWd : Below wd.heap.size wd wd.drew := (Drawn.drew _).below _
        have hZd := hbz'.trans ((Drawn.drew wd).below _)
        have hWw : Below wd.heap.size wd wd := Below.refl _ _
        have KF := Lib.hid (fun (V : World) (hV : Below Z.heap.size Z V) => show Below Z.heap.size Z V ∧ V.cell? ⟨w.heap.size, 0, none⟩ = some (.bool ng) from ⟨hV, (hV.cell z0).trans d0⟩)
        go_region_held3 (fun w' => Below Z.heap.size Z w' ∧ w'.cell? ⟨w.heap.size, 0, none⟩ = some (.bool ng))
          ((refine KF.out _ ?_; first | (with_reducible exact hZd) | (with_reducible exact hbz') | (with_reducible exact hbz1) | (with_reducible exact hbz3)))
          ((go_at_call 52; (with_reducible refine (HM.out _ hZd).mono ?_); rintro e w1 ⟨A4, c4, rfl, h1, h2, h3⟩; have hbz1 := hZd.trans (h3.mono hZd.size); have hbz3 := (hbz1.setCell (p := ⟨g, 0, none⟩) hgz (.bool ng)).setCell (p := ⟨g, 1, none⟩) hgz (.slice A4 (dig sb).length c4); have hb1 := hWd.trans (h3.mono hWd.size); have p1 := Blk.old (show Blk wd.drew g 43 _ from kg') h3; have e0 : w1.cell? ⟨g, 0, none⟩ = some (.bool ng) := p1.cell 0; have e1 : w1.cell? ⟨g, 1, none⟩ = some (.slice A3 (dig sm).length c3) := p1.cell 1; have f0 := p1.frozen 0; have f1 := p1.frozen 1; have z9 := p1.lt; have s1 := hb1.size))
        have hfin := OutAt.b (Z := Z) (ng := ng) (g := g) h1 h2 (hZd.trans (h3.mono hZd.size)) hgz p1 rfl
        generalize (w1.setCell ⟨g, 0, none⟩ (.bool ng)).setCell ⟨g, 1, none⟩ (.slice A4 (dig sb).length c4) = wc at *
        clear kg' hbz' x0 x1 x2 x3 x4 hWd hZd hWw KF HM h1 h2 h3 hb1 hbz1 hbz3 p1 e0 e1 f0 f1 z9 s1
        obtain ⟨g5, A3, c3, hg5, kg, h1, h2, hbz, hgz⟩ := hfin
        injection hg5 with hg5
        injection hg5 with hg5
        injection hg5 with hg5
        subst hg5
        have kq := kr.old hbz
        have e0 : wc.cell? ⟨g, 0, none⟩ = some (.bool ng) := kg.cell 0
        have e1 : wc.cell? ⟨g, 1, none⟩ = some (.slice A3 (dig sb).length c3) := kg.cell 1
        have e2 : wc.cell? ⟨w.heap.size, 0, none⟩ = some (.bool ng) := (hbz.cell z0).trans d0
        have e3 : wc.cell? ⟨w.heap.size + 1, 0, none⟩ = some (.bool ng') := (hbz.cell z1).trans d1
        have q0 : wc.cell? ⟨w.heap.size + 2, 0, none⟩ = some (.bool false) := kq.cell 0
        have q1 : wc.cell? ⟨w.heap.size + 2, 1, none⟩ = some (.slice none 0 0) := kq.cell 1
        have f0 := kq.frozen 0; have f1 := kq.frozen 1
        have y0 := Nat.lt_of_lt_of_le z0 hbz.size
        have y1 := Nat.lt_of_lt_of_le z1 hbz.size
        have y2 := kq.lt; have y3 := kg.lt
        have hbw' := hbw.trans (hbz.mono hbw.size)
        clear d0 d1 z0 z1 kr hbw hbz
        by_cases h0 : (dig sb).length = 0
        · have h0b : (((dig sb).length : Int) == 0) = true := by simp [h0]
          have HSZ := Lib.hid (dig_len0.1 h0)
          clear h0
          go_wp2_with fail
          have hz : (ival ng ds + ival ng' es).natAbs = 0 := by rw [HE.out.1, HSZ.out]
          exact ret_blk Tryz.results31 rfl rfl ((kq.set_ 0 _).set_ 1 _) Tryz.underlying43 rfl Tryz.sizeInt ⟨none, 0, by rw [show ival ng ds + ival ng' es = 0 by omega]; simp [dig_zero], by rw [hz, dig_zero]; exact Nat.le_refl _, by rw [hz, dig_zero]; exact .inl rfl, (hbw'.setCell (Nat.le_add_right _ 2) _).setCell (Nat.le_add_right _ 2) _⟩
        · have h0b : (((dig sb).length : Int) == 0) = false := by simpa using h0
          have H0 := Lib.hid h0
          clear h0
          go_wp2_with fail
          exact ret_blk Tryz.results31 rfl rfl ((kq.set_ 0 _).set_ 1 _) Tryz.underlying43 rfl Tryz.sizeInt ⟨A3, c3, by rw [HE.out.1, HE.out.2, show decide (0 < (dig sb).length) = true by have := H0.out; simp; omega, Bool.and_true]; rfl, by rw [HE.out.1]; exact h1, by rw [HE.out.1]; exact h2.two kq (by decide) _ _, (hbw'.setCell (Nat.le_add_right _ 2) _).setCell (Nat.le_add_right _ 2) _⟩
end Go.Proofs.YtnghlhcekghciaaGreatDoor
