/- Contracts of the package natural: trim, Normal, Of, IsZero, Cmp. -/
import Derived.Test.YtpbapoanjkekmaaN1
import Derived.Test.YtpbapoanjkekmaaProg
import Derived.Test.YtpbapoanjkekmaaChecked
import Derived.Deep.LoopGhost
import Derived.Deep.CutRange
import Derived.Deep.DeepCutAuto
import Derived.Deep.QuietTactic
import Derived.BigQuiet
import Derived.Laws.CopyOwn
import Derived.Laws.MakeOwn
namespace Go.Proofs.Ytpbapoanjkekmaa
open Go.RowKit

def u32s (ds : List Nat) : List Value := ds.map fun (d : Nat) => Value.int .u32 (d : Int)
/-- the value v is a slice of digits -/
def NatV (w : World) (B : Nat) (v : Value) (ds : List Nat) : Prop :=
  ∃ A c, v = .slice A ds.length c ∧ ds.length ≤ c ∧ Reads w B 1 A ds.length (u32s ds) ∧ Dig ds

theorem nat_at {w : World} {B : Nat} {A : Option Addr} {ds : List Nat} (h : Reads w B 1 A ds.length (u32s ds)) {k : Nat} (hk : k < ds.length) : ∃ b o, A = some ⟨b, o, none⟩ ∧ b < B ∧ w.cell? ⟨b, o + k, none⟩ = some (.int .u32 ((ds.getD k 0 : Nat) : Int)) := by
  obtain ⟨b, o, e, hb, hc⟩ := h.2 (by omega)
  refine ⟨b, o, e, hb, hc _ _ ?_⟩
  simp [u32s, List.getElem?_eq_getElem hk]

set_option maxHeartbeats 400000 in
theorem trim_any (A : Option Addr) (c B : Nat) (ds : List Nat) (w : World) (hc : ds.length ≤ c) (hm : ds.length ≤ 1000000) (hr : Reads w B 1 A ds.length (u32s ds)) (hd : Dig ds) :
    Calls Try.prog 72 #[.slice A ds.length c] w fun e w' => e = .returned (.slice A (dig (val ds)).length c) ∧ w = w' := by
  have HD := Lib.hid hd; clear hd
  go_enter Try.func72, Try.ntmps72
  go_wp2
  go_loopg [3] ds.length (fun gn i wr => ∃ (k : Nat), k ≤ ds.length ∧ gn = k ∧ i = .int .i64 k ∧ (∀ j, k ≤ j → j < ds.length → ds.getD j 0 = 0) ∧ w = wr)
  case atStart => exact ⟨_, Nat.le_refl _, rfl, rfl, fun j h1 h2 => by omega, rfl⟩
  case round =>
    obtain ⟨k, hk, hgk, rfl, hz, rfl⟩ := hrel
    have HG := Lib.hid hgk; clear hgk
    have HZ := Lib.hid hz; clear hz
    by_cases h0 : 0 < k
    · obtain ⟨k, rfl⟩ : ∃ k', k = k' + 1 := ⟨k - 1, by omega⟩
      obtain ⟨b1, o1, rfl, q1, c1⟩ := nat_at hr (k := k) (by omega)
      have i1 : (k : Int) < ds.length := by omega
      have hkk : ((k + 1 : Nat) : Int) - 1 = (k : Int) := by omega
      by_cases hx : ds.getD k 0 = 0
      · have HX := Lib.hid hx
        rw [hx] at c1
        clear hx
        go_wp2
        go_roundg k
        case rel => exact ⟨k, by omega, rfl, by go_num, fun j h1 h2 => by
          by_cases h : j = k
          · subst h; exact HX.out
          · exact HZ.out j (by omega) h2, rfl⟩
        case measure => have := HG.out; omega
      · have HX := Lib.hid hx; clear hx
        have hb : (((ds.getD k 0 : Nat) : Int) == 0) = false := by have := HX.out; simp; exact this
        have HE := Lib.hid (congrArg List.length (trim_at HD.out hk HZ.out (.inr (by simpa using HX.out))))
        generalize ds.getD k 0 = x at *
        go_wp2
        go_ret
        refine ⟨?_, rfl⟩
        rw [← HE.out]
        simp [Nat.min_eq_left hk]
    · obtain rfl : k = 0 := by omega
      have HE := Lib.hid (congrArg List.length (trim_at HD.out hk HZ.out (.inl rfl)))
      go_wp2
      go_ret
      refine ⟨?_, rfl⟩
      rw [← HE.out]
      simp

theorem Try.infoU32 : (Try.prog.info? 70).map (fun i => (i.zero, i.size, i.bytes)) = some (some (.int .u32 0), 1, 4) := by kernel_rfl
theorem info_parts {P : Program} {t : TypeId} {z : Option Value} {s b : Nat} (h : (P.info? t).map (fun i => (i.zero, i.size, i.bytes)) = some (z, s, b)) : ∃ i, P.info? t = some i ∧ i.zero = z ∧ i.size = s ∧ i.bytes = b := by
  cases hi : P.info? t with
  | none => rw [hi] at h; cases h
  | some i => rw [hi] at h; simp at h; exact ⟨i, rfl, h.1, h.2.1, h.2.2⟩
theorem u32s_zero (n : Nat) : madeCells #[Value.int .u32 0] n = (u32s (List.replicate n 0)).toArray := by
  apply Array.ext'
  rw [toList_madeCells_one]
  simp [u32s]
theorem u32s_set (l : List Nat) (i x : Nat) : (u32s l).toArray.setIfInBounds i (.int .u32 (x : Int)) = (u32s (l.set i x)).toArray := by simp [u32s, List.map_set]
theorem u32s_at (l : List Nat) (i : Nat) (h : i < l.length) : (u32s l).toArray[i]? = some (.int .u32 ((l.getD i 0 : Nat) : Int)) := by simp [u32s, List.getElem?_eq_getElem h]
theorem u32s_one (l : List Nat) : ∀ v ∈ u32s l, v.oneCell' = true := by
  intro v hv
  simp [u32s] at hv
  obtain ⟨a, _, rfl⟩ := hv
  rfl
theorem run_make_u32 {P : Program} (t e : TypeId) (i : TypeInfo) (ht : P.underlying t = some (.slice e)) (hi : P.info? e = some i) (hz : i.zero = some (.int .u32 0)) (hs : i.size = 1) (hb : i.bytes = 4) (n : Nat) (hn : n ≤ 1000000) (w : World) :
    (Instr.makeSlice t (.int .i64 (n : Int)) (.int .i64 (n : Int))).run P w = .ok (.slice (some ⟨w.heap.size, 0, none⟩) n n) (w.alloc (.cells (u32s (List.replicate n 0)).toArray e)) := by
  have hr := run_make (P := P) w t e i (.int .u32 0) ht hi hz .i64 .i64 n n (by omega) (by omega) (by rw [hb]; omega) (by omega)
  simp only [Int.toNat_natCast, hs, Nat.mul_one, Value.cells] at hr
  rw [hr, u32s_zero]
theorem Try.make_u32 (n : Nat) (hn : n ≤ 1000000) (w : World) : (Instr.makeSlice 29 (.int .i64 (n : Int)) (.int .i64 (n : Int))).run Try.prog w = .ok (.slice (some ⟨w.heap.size, 0, none⟩) n n) (w.alloc (.cells (u32s (List.replicate n 0)).toArray 70)) := by
  obtain ⟨i0, hi0, hz0, hz1, hz2⟩ := info_parts Try.infoU32
  exact run_make_u32 29 70 i0 Try.underlying29 hi0 hz0 hz1 hz2 n hn w
theorem Try.size_u32 : (Try.prog.info? 70).map (·.size) = some 1 := by kernel_rfl

/-- digits at the head of a block of digits -/
def NatB (w : World) (A : Option Addr) (ds : List Nat) : Prop := ds = [] ∨ ∃ g zs, A = some ⟨g, 0, none⟩ ∧ Blk w g 70 (u32s zs).toArray ∧ ds = zs.take ds.length
/-- a result: the digits of v, in memory -/
def NatRes (v : Nat) (w : World) (e : Ending) (w' : World) : Prop :=
  ∃ A c, e = .returned (.slice A (dig v).length c) ∧ (dig v).length ≤ c ∧ NatB w' A (dig v) ∧ Below w.heap.size w w'
theorem Blk.reads {w : World} {g : Nat} {t : TypeId} {l : List Nat} (h : Blk w g t (u32s l).toArray) (n : Nat) (hn : n ≤ l.length) : Reads w w.heap.size 1 (some ⟨g, 0, none⟩) n (u32s (l.take n)) := by
  refine ⟨by simp [u32s, Nat.min_eq_left hn], fun _ => ⟨g, 0, rfl, h.lt, fun j u hu => ?_⟩⟩
  rw [Nat.zero_add, h.cell]
  simp [u32s, List.getElem?_take] at hu ⊢
  exact hu.2
theorem reads_dig {w : World} {B : Nat} {A : Option Addr} {ds : List Nat} (h : Reads w B 1 A ds.length (u32s ds)) (hd : Dig ds) : Reads w B 1 A (dig (val ds)).length (u32s (dig (val ds))) := by
  have hle := dig_len_le hd
  refine ⟨by simp [u32s], fun hp => ?_⟩
  obtain ⟨b, o, e, hb, hc⟩ := h.2 (by omega)
  refine ⟨b, o, e, hb, fun j u hu => hc j u ?_⟩
  rw [dig_take hd] at hu
  simp [u32s, List.getElem?_take] at hu ⊢
  exact hu.2

theorem NatB.reads {w : World} {A : Option Addr} {ds : List Nat} (h : NatB w A ds) : Reads w w.heap.size 1 A ds.length (u32s ds) := by
  rcases h with rfl | ⟨g, zs, rfl, hb, he⟩
  · exact Reads.none_
  · have hl : ds.length ≤ zs.length := by have := congrArg List.length he; simp at this; omega
    have := hb.reads ds.length hl
    rwa [← he] at this
theorem NatB.of_blk {w : World} {g : Nat} {zs : List Nat} (h : Blk w g 70 (u32s zs).toArray) : NatB w (some ⟨g, 0, none⟩) zs := .inr ⟨g, zs, rfl, h, by simp⟩
theorem NatB.dig {w : World} {A : Option Addr} {ds : List Nat} (h : NatB w A ds) (hd : Dig ds) : NatB w A (dig (val ds)) := by
  rcases h with rfl | ⟨g, zs, rfl, hb, he⟩
  · left; simp [val, dig_zero]
  · right
    refine ⟨g, zs, rfl, hb, ?_⟩
    have h1 := dig_take hd
    have h2 := dig_len_le hd
    rw [he, List.take_take, ← he, Nat.min_eq_left h2] at h1
    exact h1
theorem NatB.keep {w w' : World} {A : Option Addr} {ds : List Nat} (h : NatB w A ds) (hk : ∀ g cs, Blk w g 70 cs → Blk w' g 70 cs) : NatB w' A ds := by
  rcases h with rfl | ⟨g, zs, rfl, hb, he⟩
  · exact .inl rfl
  · exact .inr ⟨g, zs, rfl, hk _ _ hb, he⟩
theorem NatB.old {w w' : World} {A : Option Addr} {ds : List Nat} (h : NatB w A ds) (hb : Below w.heap.size w w') : NatB w' A ds := h.keep fun _ _ k => k.old hb

set_option maxHeartbeats 400000 in
set_option maxRecDepth 100000 in
theorem Normal_any (A : Option Addr) (c B : Nat) (ds : List Nat) (w : World) (hB : B ≤ w.heap.size) (hc : ds.length ≤ c) (hm : ds.length ≤ 1000000) (hr : Reads w B 1 A ds.length (u32s ds)) (hd : Dig ds) :
    Calls Try.prog 65 #[.slice A ds.length c] w (NatRes (val ds) w) := by
  have hcl := trim_any A c B ds w hc hm hr hd
  have hle := dig_len_le hd
  have hrd := reads_dig hr hd
  unfold NatRes
  generalize dig (val ds) = es at *
  have hmk := fun (W : World) => Try.make_u32 es.length (by omega) W
  have HCL := Lib.hid hcl; clear hcl hr hd
  go_enter Try.func65, Try.ntmps65
  have hsrc : 0 < (u32s es).length → ∃ ad, A = some ad ∧ ∀ j v, (u32s es)[j]? = some v → (w.alloc (.cells (u32s (List.replicate es.length 0)).toArray 70)).cell? (ad.add j) = some v := fun hp => by
    obtain ⟨b, o, e, hb, hcl⟩ := hrd.2 (by simpa [u32s] using hp)
    refine ⟨⟨b, o, none⟩, e, fun j v hv => ?_⟩
    have h1 := hcl j v hv
    have h2 := ((Below.refl B w).alloc hB (.cells (u32s (List.replicate es.length 0)).toArray 70)).cell (p := ⟨b, o + j, none⟩) hb
    have e3 : (⟨b, o, none⟩ : Addr).add j = ⟨b, o + j, none⟩ := by simp [Addr.add]
    rw [e3]
    exact h2.trans h1
  have hlen : (u32s es).length = Nat.min es.length es.length := by simp [u32s]
  have hbl : Below w.heap.size w (w.alloc (.cells (u32s (List.replicate es.length 0)).toArray 70)) := (Below.refl _ w).alloc (Nat.le_refl _) _
  have hfit : 0 + (u32s es).length ≤ (u32s (List.replicate es.length 0)).length := by simp [u32s]
  have HSRC := Lib.hid hsrc; have HLEN := Lib.hid hlen; have HBL := Lib.hid hbl
  clear hsrc hlen hbl
  go_wp2_with (first | (go_at_call 72; refine HCL.out.mono ?_; rintro e w1 ⟨rfl, rfl⟩) | (refine wpList_copy_splice (o := ⟨some 11, _, _, _, _, _⟩) rfl (.tmp 9) (.tmp 10) 29 29 rfl 70 Try.underlying29 Try.size_u32 _ _ es.length es.length es.length c rfl rfl w.heap.size 0 _ 70 (heap_alloc_new w _) (u32s es) HLEN.out (fun hp => ⟨rfl, HSRC.out hp⟩) hfit (u32s_one es) w.heap.size w HBL.out (Nat.le_refl _) ?_; intro w3 hg3 hb3))

  go_ret
  have hsp : splice (u32s (List.replicate es.length 0)) 0 (u32s es) = u32s es := by simp [splice, u32s]
  have hg : Blk w3 w.heap.size 70 (u32s es).toArray := by have := hg3.out; rwa [hsp] at this
  exact ⟨_, _, rfl, Nat.le_refl _, .of_blk hg, hb3⟩

set_option maxHeartbeats 400000 in
theorem IsZero_any (A : Option Addr) (c B : Nat) (ds : List Nat) (w : World) (hc : ds.length ≤ c) (hm : ds.length ≤ 1000000) (hr : Reads w B 1 A ds.length (u32s ds)) (hd : Dig ds) :
    Calls Try.prog 68 #[.slice A ds.length c] w fun e w' => e = .returned (.bool (val ds == 0)) ∧ w = w' := by
  have hcl := trim_any A c B ds w hc hm hr hd
  have hle := dig_len_le hd
  have HZ := Lib.hid (@dig_len0 (val ds))
  have HCL := Lib.hid hcl; clear hcl hr hd
  go_enter Try.func68, Try.ntmps68
  by_cases h0 : (dig (val ds)).length = 0
  · have HZ0 := Lib.hid (HZ.out.1 h0)
    have hb : (((dig (val ds)).length : Int) == 0) = true := by rw [h0]; rfl
    clear h0
    go_wp2_with (first | (go_at_call 72; refine HCL.out.mono ?_; rintro e w1 ⟨rfl, rfl⟩))
    go_ret
    refine ⟨?_, rfl⟩
    rw [HZ0.out]; rfl
  · have hz : val ds ≠ 0 := fun h => h0 (HZ.out.2 h)
    have hb : (((dig (val ds)).length : Int) == 0) = false := by simpa using h0
    go_wp2_with (first | (go_at_call 72; refine HCL.out.mono ?_; rintro e w1 ⟨rfl, rfl⟩))
    go_ret
    refine ⟨?_, rfl⟩
    simpa using hz
end Go.Proofs.Ytpbapoanjkekmaa
