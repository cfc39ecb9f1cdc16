/- The reference's arithmetic of magnitudes: trim, plus. -/
import Derived.Test.YtnghlhcekghciaaGreatDoorZI
namespace Go.Proofs.YtnghlhcekghciaaGreatDoor
open Go.RowKit

/-- digits at the head of a block of digits, whatever stands behind them -/
def NatK (w : World) (A : Option Addr) (ds : List Nat) : Prop := ds = [] ∨ ∃ g cs, A = some ⟨g, 0, none⟩ ∧ Blk w g 39 cs ∧ cs.toList.take ds.length = u32s ds
theorem NatK.reads {w : World} {A : Option Addr} {ds : List Nat} (h : NatK w A ds) : Reads w w.heap.size 1 A ds.length (u32s ds) := by
  rcases h with rfl | ⟨g, cs, rfl, hb, he⟩
  · exact Reads.none_
  · refine ⟨by simp [u32s], fun _ => ⟨g, 0, rfl, hb.lt, fun j u hu => ?_⟩⟩
    rw [Nat.zero_add, hb.cell]
    rw [← he, List.getElem?_take] at hu
    split at hu
    · simpa using hu
    · cases hu
theorem NatK.keep {w w' : World} {A : Option Addr} {ds : List Nat} (h : NatK w A ds) (hk : ∀ g cs, Blk w g 39 cs → Blk w' g 39 cs) : NatK w' A ds := by
  rcases h with rfl | ⟨g, cs, rfl, hb, he⟩
  · exact .inl rfl
  · exact .inr ⟨g, cs, rfl, hk _ _ hb, he⟩
theorem NatK.old {w w' : World} {A : Option Addr} {ds : List Nat} (h : NatK w A ds) (hb : Below w.heap.size w w') : NatK w' A ds := h.keep fun _ _ k => k.old hb
theorem NatK.of_own {w : World} {base n c : Nat} {A : Option Addr} {ds : List Nat} (h : w.ownsRow base 39 1 (.slice A n c) n (u32s ds)) : NatK w A ds := by
  have hl : ds.length = n := by have := h.1; simpa [u32s] using this
  rcases h.2 with ⟨_, h0⟩ | ⟨g, cap, cur, hv, hb, hh, _, _, _, ht⟩
  · exact .inl (List.eq_nil_of_length_eq_zero (by omega))
  · injection hv with hv
    subst hv
    refine .inr ⟨g, cur, rfl, hh, ?_⟩
    rw [hl]
    simpa using ht
/-- a result: the digits of v, in memory of the call's own -/
def NatResK (v : Nat) (w : World) (e : Ending) (w' : World) : Prop :=
  ∃ A c, e = .returned (.slice A (dig v).length c) ∧ (dig v).length ≤ c ∧ NatK w' A (dig v) ∧ Below w.heap.size w w'
theorem NatResK.nin {v c : Nat} {w' : World} {A : Option Addr} (h1 : (dig v).length ≤ c) (h2 : NatK w' A (dig v)) : NatIn w' w'.heap.size A c (dig v) := ⟨h2.reads, dig_dig _, h1⟩
theorem own_empty (w : World) (t : TypeId) : (w.alloc (.cells #[] t)).ownsRow w.heap.size t 1 (.slice (some ⟨w.heap.size, 0, none⟩) 0 0) 0 [] :=
  ⟨rfl, .inr ⟨w.heap.size, 0, #[], rfl, Nat.le_refl _, heap_alloc_new w _, Nat.le_refl _, Nat.zero_le _, rfl, rfl⟩⟩
theorem own_cap {w : World} {base n c size : Nat} {e : TypeId} {A : Option Addr} {xs : List Value} (h : w.ownsRow base e size (.slice A n c) n xs) : n ≤ c := by
  rcases h.2 with ⟨hv, h0⟩ | ⟨g, cap, cur, hv, _, _, h1, _⟩
  · omega
  · injection hv with _ _ hv
    omega

/-- a result: the digits of v, in a row of the call's own -/
def NatResO (v : Nat) (w : World) (e : Ending) (w' : World) : Prop :=
  ∃ A c, e = .returned (.slice A (dig v).length c) ∧ w'.ownsRow w.heap.size 39 1 (.slice A (dig v).length c) (dig v).length (u32s (dig v)) ∧ Below w.heap.size w w'
set_option maxHeartbeats 1000000 in
set_option maxRecDepth 100000 in
theorem RTrim_own (A : Option Addr) (c B : Nat) (ds : List Nat) (w : World) (hB : B ≤ w.heap.size) (h : NatIn w B A c ds) (hm : ds.length ≤ 1000000) :
    Calls Tryz.prog 50 #[.slice A ds.length c] w (NatResO (val ds) w) := by
  obtain ⟨i0, hi0, hz0, hz1, hz2⟩ := info_parts Tryz.infoU32
  have hr := h.rd
  have HD := Lib.hid h.dg
  have hc := h.cap
  clear h
  go_enter Tryz.func50, Tryz.ntmps50
  go_wp2
  go_loopg [3] ds.length (fun gn i wr => ∃ (k : Nat), k ≤ ds.length ∧ gn = k ∧ i = .int .i64 k ∧ (∀ j, k ≤ j → j < ds.length → ds.getD j 0 = 0) ∧ w = wr)
  case atStart => exact ⟨_, Nat.le_refl _, rfl, rfl, fun j h1 h2 => by omega, rfl⟩
  case round =>
    obtain ⟨k, hk, hgk, rfl, hz, rfl⟩ := hrel
    have HG := Lib.hid hgk; have HZ := Lib.hid hz
    clear hgk hz
    by_cases h0 : 0 < k
    · obtain ⟨k, rfl⟩ : ∃ k', k = k' + 1 := ⟨k - 1, by omega⟩
      obtain ⟨b1, o1, rfl, q1, c1⟩ := nat_at hr (k := k) (by omega)
      have i1 : (k : Int) < ds.length := by omega
      have i0' : (0 : Int) ≤ (k : Int) := by omega
      have i2 : (0 : Int) < ((k + 1 : Nat) : Int) := by omega
      have hkk : ((k + 1 : Nat) : Int) - 1 = (k : Int) := by omega
      by_cases hx : ds.getD k 0 = 0
      · have HX := Lib.hid hx
        rw [hx] at c1
        clear hx
        go_wp2
        go_roundg k
        case rel => exact ⟨k, by omega, rfl, by go_num, fun j h1 h2 => by
          by_cases h : j = k
          · subst h; exact HX.out
          · exact HZ.out j (by omega) h2, rfl⟩
        case measure => have := HG.out; omega
      · have HX := Lib.hid hx; clear hx
        have hb : (((ds.getD k 0 : Nat) : Int) == 0) = false := by have := HX.out; simp; exact this
        have HE := Lib.hid (trim_at HD.out hk HZ.out (.inr (by simpa using HX.out)))
        generalize ds.getD k 0 = x at *
        obtain ⟨n, hn⟩ : ∃ n, n = k + 1 := ⟨_, rfl⟩
        rw [← hn] at hk HE i2 hkk ⊢
        have HNK := Lib.hid hn
        have hrd : Reads (w.alloc (.cells #[] 39)) B 1 (some ⟨b1, o1, none⟩) n (u32s (ds.take n)) := by
          refine ⟨by simp [u32s]; omega, fun _ => ?_⟩
          obtain ⟨b, o, e, hb, hc⟩ := hr.2 (by omega)
          refine ⟨b, o, e, hb, fun j u hu => (((Below.refl B w).alloc hB _).cell (p := ⟨b, o + j, none⟩) hb).trans (hc j u ?_)⟩
          simp [u32s, List.getElem?_take] at hu ⊢
          exact hu.2
        rw [HE.out] at hrd
        have hlen := congrArg List.length HE.out
        rw [List.length_take, Nat.min_eq_left hk] at hlen
        have hown := own_empty w 39
        generalize hes : dig (val ds) = es at *
        have HES := Lib.hid hes
        have j1 : (n : Int) ≤ (c : Int) := by omega
        have h63 : 0 + n ≤ maxLen := by unfold maxLen; omega
        have hby : (0 + n) * 4 ≤ 140737488355328 := by omega
        have hbase : w.heap.size ≤ (w.alloc (.cells #[] 39)).heap.size := by simp
        have HLN := Lib.hid hlen
        clear hlen hn hes
        go_wp2_with (at_builtin; refine wpList_append_any _ rfl (.tmp 18) (.tmp 21) _ rfl w.heap.size 39 i0 _ 1 4 Tryz.underlying40 hi0 hz0 hz1 hz2 rfl (Nat.le_refl _) _ _ _ rfl hown B _ n _ _ rfl hrd (u32s_one es) h63 hby hbase ?_; intro v3 w3 hown3 hg3 hat3; refine Hid.out ?_)
        refine Lib.hid ?_
        rw [List.nil_append, Nat.zero_add] at hown3
        have hbl : Below w.heap.size w w3 := ((Below.refl _ w).alloc (Nat.le_refl _) _).grown hg3 hbase (fun k hk => (hown.lt k hk).1)
        obtain ⟨A3, c3, rfl⟩ := own_slice hown3
        have HO := Lib.hid hown3
        clear hown hown3 hg3 hat3 hrd
        go_wp2
        go_ret
        exact ⟨A3, c3, by rw [HES.out, ← HLN.out]; rfl, by rw [HES.out, ← HLN.out]; exact HO.out, hbl⟩
    · obtain rfl : k = 0 := by omega
      have HE := Lib.hid (trim_at HD.out hk HZ.out (.inl rfl))
      have hlen := congrArg List.length HE.out
      rw [List.length_take, Nat.min_eq_left hk] at hlen
      have hown := own_empty w 39
      have hde : dig (val ds) = [] := List.eq_nil_of_length_eq_zero hlen.symm
      have HDE := Lib.hid hde
      have hrd : Reads (w.alloc (.cells #[] 39)) B 1 A 0 (u32s []) := Reads.none_
      have h63 : 0 + 0 ≤ maxLen := by unfold maxLen; omega
      have hby : (0 + 0) * 4 ≤ 140737488355328 := by omega
      have hbase : w.heap.size ≤ (w.alloc (.cells #[] 39)).heap.size := by simp
      clear hlen hde
      rcases A with _ | ad
      all_goals
        go_wp2_with (at_builtin; go_loud (refine wpList_append_any _ rfl (.tmp 18) (.tmp 21) _ rfl w.heap.size 39 i0 _ 1 4 Tryz.underlying40 hi0 hz0 hz1 hz2 rfl (Nat.le_refl _) _ _ _ rfl hown B _ 0 _ _ rfl hrd (u32s_one []) h63 hby hbase ?_); intro v3 w3 hown3 hg3 hat3; refine Hid.out ?_)
        refine Lib.hid ?_
        rw [List.nil_append] at hown3
        have hbl : Below w.heap.size w w3 := ((Below.refl _ w).alloc (Nat.le_refl _) _).grown hg3 hbase (fun k hk => (hown.lt k hk).1)
        obtain ⟨A3, c3, rfl⟩ := own_slice hown3
        have HO := Lib.hid hown3
        clear hown hown3 hg3 hat3 hrd
        go_wp2
        go_ret
        refine ⟨A3, c3, by rw [HDE.out]; rfl, by rw [HDE.out]; exact HO.out, hbl⟩
theorem RTrim_any (A : Option Addr) (c B : Nat) (ds : List Nat) (w : World) (hB : B ≤ w.heap.size) (h : NatIn w B A c ds) (hm : ds.length ≤ 1000000) :
    Calls Tryz.prog 50 #[.slice A ds.length c] w (NatResK (val ds) w) :=
  (RTrim_own A c B ds w hB h hm).mono fun _ _ ⟨A', c', e, h1, h2⟩ => ⟨A', c', e, own_cap h1, NatK.of_own h1, h2⟩

/-- the sum so far: the digits below k, the carry -/
structure PlusSt (zs : List Nat) (cr k va vb : Nat) : Prop where
  len : zs.length = k
  dg : Dig zs
  sum : val zs + 4294967296 ^ k * cr = va + vb
  carry : cr ≤ 1
theorem PlusSt.step {zs : List Nat} {cr k va vb xa xb : Nat} (h : PlusSt zs cr k va vb) (hxa : xa < 4294967296) (hxb : xb < 4294967296) :
    PlusSt (zs ++ [(cr + xa + xb) % 4294967296]) ((cr + xa + xb) / 4294967296) (k + 1) (va + 4294967296 ^ k * xa) (vb + 4294967296 ^ k * xb) := by
  have hc := h.carry
  refine ⟨by simp [h.len], fun d hd => ?_, ?_, by omega⟩
  · rcases List.mem_append.1 hd with hd | hd
    · exact h.dg d hd
    · rw [List.mem_singleton] at hd; omega
  · have h0 := h.sum
    have hv := val_append zs [(cr + xa + xb) % 4294967296]
    rw [h.len] at hv
    simp only [val, Nat.mul_zero, Nat.add_zero] at hv
    rw [hv, Nat.pow_succ]
    generalize 4294967296 ^ k = p at *
    have e : (cr + xa + xb) % 4294967296 + 4294967296 * ((cr + xa + xb) / 4294967296) = cr + xa + xb := Nat.mod_add_div _ _
    have e2 : p * ((cr + xa + xb) % 4294967296 + 4294967296 * ((cr + xa + xb) / 4294967296)) = p * (cr + xa + xb) := by rw [e]
    rw [Nat.mul_add, Nat.mul_add, Nat.mul_add, ← Nat.mul_assoc] at e2
    omega
theorem val_take_out {ds : List Nat} {k : Nat} (hk : ds.length ≤ k) : val (ds.take (k + 1)) = val (ds.take k) + 4294967296 ^ k * 0 := by
  rw [List.take_of_length_le (by omega), List.take_of_length_le hk]; rfl

set_option maxHeartbeats 2000000 in
set_option maxRecDepth 100000 in
theorem RPlus_any (A A' : Option Addr) (c c' B : Nat) (a b : List Nat) (w : World) (hB : B ≤ w.heap.size) (h : NatIn w B A c a) (h' : NatIn w B A' c' b) (hm : a.length ≤ 100000) (hm' : b.length ≤ 100000) :
    Calls Tryz.prog 51 #[.slice A a.length c, .slice A' b.length c'] w (NatResK (val a + val b) w) := by
  obtain ⟨i0, hi0, hz0, hz1, hz2⟩ := info_parts Tryz.infoU32
  have r1 := h.rd; have r2 := h'.rd
  have G1 := Lib.hid h.dg; have G2 := Lib.hid h'.dg
  clear h h'
  go_enter Tryz.func51, Tryz.ntmps51
  go_wp2
  have hst0 : PlusSt [] 0 0 (val (a.take 0)) (val (b.take 0)) := ⟨rfl, by simp [Dig], rfl, by omega⟩
  have hown0 : w.ownsRow w.heap.size 39 1 (.slice none 0 0) 0 (u32s []) := ⟨rfl, .inl ⟨rfl, rfl⟩⟩
  go_loopg [5, 6, 7] (a.length + b.length + 2) (fun gn zv cv i wr => ∃ (k : Nat) (zs : List Nat) (cr : Nat), gn = a.length + b.length + 2 - k ∧ i = .int .i64 k ∧ cv = .int .u64 (cr : Int) ∧ PlusSt zs cr k (val (a.take k)) (val (b.take k)) ∧ k ≤ a.length + b.length + 1 ∧ (a.length < k → b.length < k → cr = 0) ∧ wr.ownsRow w.heap.size 39 1 zv k (u32s zs) ∧ Below w.heap.size w wr)
  case atStart => exact ⟨0, [], 0, rfl, rfl, rfl, hst0, by omega, fun _ _ => rfl, hown0, Below.refl _ _⟩
  case round =>
    clear hst0 hown0
    obtain ⟨k, zs, cr, hgk, rfl, rfl, hst, hk, hcz, hown, hbl⟩ := hrel
    have HG := Lib.hid hgk; have HCZ := Lib.hid hcz
    clear hgk hcz
    have hz := hbl.size
    have hcr := hst.carry
    by_cases hgo : k < a.length ∨ k < b.length ∨ 0 < cr
    · have HGO := Lib.hid hgo
      obtain ⟨xa, hxa, hta, hca⟩ : ∃ xa, xa < 4294967296 ∧ val (a.take (k + 1)) = val (a.take k) + 4294967296 ^ k * xa ∧ (k < a.length → ∃ b1 o1, A = some ⟨b1, o1, none⟩ ∧ wr.cell? ⟨b1, o1 + k, none⟩ = some (.int .u32 (xa : Int))) ∧ (a.length ≤ k → xa = 0) := by
        by_cases hka : k < a.length
        · refine ⟨a.getD k 0, dig_at G1.out k, val_take_succ hka, fun _ => ?_, fun h => by omega⟩
          obtain ⟨b1, o1, e, _, c1⟩ := nat_at (r1.below (hbl.mono hB)) hka
          exact ⟨b1, o1, e, c1⟩
        · exact ⟨0, by omega, val_take_out (by omega), fun h => absurd h hka, fun _ => rfl⟩
      obtain ⟨xb, hxb, htb, hcb⟩ : ∃ xb, xb < 4294967296 ∧ val (b.take (k + 1)) = val (b.take k) + 4294967296 ^ k * xb ∧ (k < b.length → ∃ b1 o1, A' = some ⟨b1, o1, none⟩ ∧ wr.cell? ⟨b1, o1 + k, none⟩ = some (.int .u32 (xb : Int))) ∧ (b.length ≤ k → xb = 0) := by
        by_cases hkb : k < b.length
        · refine ⟨b.getD k 0, dig_at G2.out k, val_take_succ hkb, fun _ => ?_, fun h => by omega⟩
          obtain ⟨b1, o1, e, _, c1⟩ := nat_at (r2.below (hbl.mono hB)) hkb
          exact ⟨b1, o1, e, c1⟩
        · exact ⟨0, by omega, val_take_out (by omega), fun h => absurd h hkb, fun _ => rfl⟩
      have hN := hst.step hxa hxb
      rw [← hta, ← htb] at hN
      have HN := Lib.hid hN
      have HCN := Lib.hid (show a.length < k + 1 → b.length < k + 1 → (cr + xa + xb) / 4294967296 = 0 from fun h1 h2 => by
        rw [hca.2 (by omega), hcb.2 (by omega)]; omega)
      have HCA := Lib.hid hca; have HCB := Lib.hid hcb
      have e1 : (((cr + xa + xb) / 4294967296 : Nat) : Int) = ((cr : Int) + (xa : Int) + (xb : Int)) / 4294967296 := by omega
      have e2 : (((cr + xa + xb) % 4294967296 : Nat) : Int) = ((cr : Int) + (xa : Int) + (xb : Int)) % 4294967296 := by omega
      have E1 := Lib.hid e1; have E2 := Lib.hid e2
      have HST := Lib.hid hst
      have hkz : zs.length = k := hst.len
      have HKZ := Lib.hid hkz
      clear hN hta htb hca hcb e1 e2 hst hgo hkz
      have h63 : k + 1 ≤ maxLen := by unfold maxLen; omega
      have hby : (k + 1) * 4 ≤ 140737488355328 := by omega
      by_cases hka : k < a.length <;> by_cases hkb : k < b.length
      · have j1 : (k : Int) < (a.length : Int) := by omega
        have j2 : (k : Int) < (b.length : Int) := by omega
        have i0' : (0 : Int) ≤ (k : Int) := by omega
        obtain ⟨b1, o1, rfl, c1⟩ := HCA.out.1 hka
        obtain ⟨b2, o2, rfl, c2⟩ := HCB.out.1 hkb
        have hown' := hown.alloc (.cells #[.int .u32 (((cr : Int) + (xa : Int) + (xb : Int)) % 4294967296)] 39)
        have hbase : w.heap.size ≤ (wr.alloc (.cells #[.int .u32 (((cr : Int) + (xa : Int) + (xb : Int)) % 4294967296)] 39)).heap.size := by simp; omega
        go_wp2_with (at_builtin; refine wpList_append_any _ rfl (.tmp 46) (.tmp 49) _ rfl w.heap.size 39 i0 _ 1 4 Tryz.underlying40 hi0 hz0 hz1 hz2 rfl (Nat.le_refl _) _ _ _ rfl hown' _ _ 1 1 _ rfl (Reads.one_new wr (.int .u32 (((cr : Int) + (xa : Int) + (xb : Int)) % 4294967296)) 39) (by intro u hu; simp at hu; subst hu; rfl) h63 hby hbase ?_; intro v3 w3 hown3 hg3 hat3; refine Hid.out ?_)
        refine Lib.hid ?_
        have hbl3 : Below w.heap.size w w3 := (hbl.alloc hz _).grown hg3 hbase (fun k hk => (hown'.lt k hk).1)
        have HO := Lib.hid hown3
        clear hown' hg3 hat3 hown hown3
        go_wp2
        go_roundg (a.length + b.length + 2 - (k + 1))
        case rel =>
          refine ⟨k + 1, _, _, rfl, by go_num, ?_, HN.out, by have := HGO.out; have := HCZ.out; omega, HCN.out, ?_, hbl3⟩
          · rw [E1.out]
          · have e9 : u32s (zs ++ [(cr + xa + xb) % 4294967296]) = u32s zs ++ [.int .u32 (((cr : Int) + (xa : Int) + (xb : Int)) % 4294967296)] := by
              rw [u32s, List.map_append, List.map_singleton, E2.out]; simp [u32s]
            rw [e9]
            exact HO.out
        case measure => have := HG.out; omega
      · have j1 : (k : Int) < (a.length : Int) := by omega
        have j2 : ¬ (k : Int) < (b.length : Int) := by omega
        have i0' : (0 : Int) ≤ (k : Int) := by omega
        obtain ⟨b1, o1, rfl, c1⟩ := HCA.out.1 hka
        obtain rfl : xb = 0 := HCB.out.2 (by omega)
        have hown' := hown.alloc (.cells #[.int .u32 (((cr : Int) + (xa : Int)) % 4294967296)] 39)
        have hbase : w.heap.size ≤ (wr.alloc (.cells #[.int .u32 (((cr : Int) + (xa : Int)) % 4294967296)] 39)).heap.size := by simp; omega
        go_wp2_with (at_builtin; refine wpList_append_any _ rfl (.tmp 46) (.tmp 49) _ rfl w.heap.size 39 i0 _ 1 4 Tryz.underlying40 hi0 hz0 hz1 hz2 rfl (Nat.le_refl _) _ _ _ rfl hown' _ _ 1 1 _ rfl (Reads.one_new wr (.int .u32 (((cr : Int) + (xa : Int)) % 4294967296)) 39) (by intro u hu; simp at hu; subst hu; rfl) h63 hby hbase ?_; intro v3 w3 hown3 hg3 hat3; refine Hid.out ?_)
        refine Lib.hid ?_
        have hbl3 : Below w.heap.size w w3 := (hbl.alloc hz _).grown hg3 hbase (fun k hk => (hown'.lt k hk).1)
        have HO := Lib.hid hown3
        clear hown' hg3 hat3 hown hown3
        go_wp2
        go_roundg (a.length + b.length + 2 - (k + 1))
        case rel =>
          refine ⟨k + 1, _, _, rfl, by go_num, ?_, HN.out, by have := HGO.out; have := HCZ.out; omega, HCN.out, ?_, hbl3⟩
          · rw [E1.out]; simp
          · have e9 : u32s (zs ++ [(cr + xa + 0) % 4294967296]) = u32s zs ++ [.int .u32 (((cr : Int) + (xa : Int)) % 4294967296)] := by
              rw [u32s, List.map_append, List.map_singleton, E2.out]; simp [u32s]
            rw [e9]
            exact HO.out
        case measure => have := HG.out; omega
      · have j1 : ¬ (k : Int) < (a.length : Int) := by omega
        have j2 : (k : Int) < (b.length : Int) := by omega
        have i0' : (0 : Int) ≤ (k : Int) := by omega
        obtain rfl : xa = 0 := HCA.out.2 (by omega)
        obtain ⟨b2, o2, rfl, c2⟩ := HCB.out.1 hkb
        have hown' := hown.alloc (.cells #[.int .u32 (((cr : Int) + (xb : Int)) % 4294967296)] 39)
        have hbase : w.heap.size ≤ (wr.alloc (.cells #[.int .u32 (((cr : Int) + (xb : Int)) % 4294967296)] 39)).heap.size := by simp; omega
        go_wp2_with (at_builtin; refine wpList_append_any _ rfl (.tmp 46) (.tmp 49) _ rfl w.heap.size 39 i0 _ 1 4 Tryz.underlying40 hi0 hz0 hz1 hz2 rfl (Nat.le_refl _) _ _ _ rfl hown' _ _ 1 1 _ rfl (Reads.one_new wr (.int .u32 (((cr : Int) + (xb : Int)) % 4294967296)) 39) (by intro u hu; simp at hu; subst hu; rfl) h63 hby hbase ?_; intro v3 w3 hown3 hg3 hat3; refine Hid.out ?_)
        refine Lib.hid ?_
        have hbl3 : Below w.heap.size w w3 := (hbl.alloc hz _).grown hg3 hbase (fun k hk => (hown'.lt k hk).1)
        have HO := Lib.hid hown3
        clear hown' hg3 hat3 hown hown3
        go_wp2
        go_roundg (a.length + b.length + 2 - (k + 1))
        case rel =>
          refine ⟨k + 1, _, _, rfl, by go_num, ?_, HN.out, by have := HGO.out; have := HCZ.out; omega, HCN.out, ?_, hbl3⟩
          · rw [E1.out]; simp
          · have e9 : u32s (zs ++ [(cr + 0 + xb) % 4294967296]) = u32s zs ++ [.int .u32 (((cr : Int) + (xb : Int)) % 4294967296)] := by
              rw [u32s, List.map_append, List.map_singleton, E2.out]; simp [u32s]
            rw [e9]
            exact HO.out
        case measure => have := HG.out; omega
      · have j1 : ¬ (k : Int) < (a.length : Int) := by omega
        have j2 : ¬ (k : Int) < (b.length : Int) := by omega
        have i0' : (0 : Int) ≤ (k : Int) := by omega
        obtain rfl : xa = 0 := HCA.out.2 (by omega)
        obtain rfl : xb = 0 := HCB.out.2 (by omega)
        have j3 : (0 : Int) < (cr : Int) := by have := HGO.out; omega
        have hown' := hown.alloc (.cells #[.int .u32 (cr : Int)] 39)
        have hbase : w.heap.size ≤ (wr.alloc (.cells #[.int .u32 (cr : Int)] 39)).heap.size := by simp; omega
        go_wp2_with (at_builtin; refine wpList_append_any _ rfl (.tmp 46) (.tmp 49) _ rfl w.heap.size 39 i0 _ 1 4 Tryz.underlying40 hi0 hz0 hz1 hz2 rfl (Nat.le_refl _) _ _ _ rfl hown' _ _ 1 1 _ rfl (Reads.one_new wr (.int .u32 (cr : Int)) 39) (by intro u hu; simp at hu; subst hu; rfl) h63 hby hbase ?_; intro v3 w3 hown3 hg3 hat3; refine Hid.out ?_)
        refine Lib.hid ?_
        have hbl3 : Below w.heap.size w w3 := (hbl.alloc hz _).grown hg3 hbase (fun k hk => (hown'.lt k hk).1)
        have HO := Lib.hid hown3
        clear hown' hg3 hat3 hown hown3
        go_wp2
        go_roundg (a.length + b.length + 2 - (k + 1))
        case rel =>
          refine ⟨k + 1, _, _, rfl, by go_num, ?_, HN.out, by have := HGO.out; have := HCZ.out; omega, HCN.out, ?_, hbl3⟩
          · rw [E1.out]; simp
          · have e9 : u32s (zs ++ [(cr + 0 + 0) % 4294967296]) = u32s zs ++ [.int .u32 (cr : Int)] := by
              rw [show (cr + 0 + 0) % 4294967296 = cr by omega]; simp [u32s]
            rw [e9]
            exact HO.out
        case measure => have := HG.out; omega
    · have n1 : ¬ (k : Int) < (a.length : Int) := by omega
      have n2 : ¬ (k : Int) < (b.length : Int) := by omega
      have n3 : ¬ (0 : Int) < (cr : Int) := by omega
      have hv : val zs = val a + val b := by
        have h0 := hst.sum
        rw [List.take_of_length_le (by omega), List.take_of_length_le (by omega), show cr = 0 by omega] at h0
        omega
      have hdz := hst.dg
      have hlz := hst.len
      obtain ⟨A3, c3, rfl⟩ := own_slice hown
      have hnk := NatK.of_own hown
      have hcp := own_cap hown
      have hRT := RTrim_any A3 c3 wr.heap.size zs wr (Nat.le_refl _) ⟨hnk.reads, hdz, by omega⟩ (by omega)
      rw [hv, hlz] at hRT
      have HRT := Lib.hid hRT
      clear hRT hv hdz hlz hnk hown hst hgo
      go_wp2_with fail
      refine HRT.out.mono ?_
      rintro e w4 ⟨A4, c4, rfl, h1, h2, h3⟩
      have HE := Lib.hid (And.intro h1 (And.intro h2 (hbl.trans (h3.mono hz))))
      clear h1 h2 h3
      go_wp2_with fail
      go_ret
      exact ⟨A4, c4, rfl, HE.out.1, HE.out.2.1, HE.out.2.2⟩
end Go.Proofs.YtnghlhcekghciaaGreatDoor
