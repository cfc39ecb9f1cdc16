/- Contract of natural.Add. -/
import Derived.Test.YtpbapoanjkekmaaGreatZN
namespace Go.Proofs.YtpbapoanjkekmaaGreat
open Go.RowKit

/-- the block pc has turned, to the digit o; no other one has -/
structure CarrySt (w w' : World) (pc o : Nat) : Prop where
  blk : Blk w' pc 82 #[.int .u32 (o : Int)]
  other : ∀ g t cs, g ≠ pc → Blk w g t cs → Blk w' g t cs
  below : ∀ B b, Below B b w → B ≤ pc → Below B b w'

set_option maxHeartbeats 400000 in
theorem Add1_any (x y c pc s o : Nat) (hx : x < 4294967296) (hy : y < 4294967296) (hc : c ≤ 1) (hs : s = (x + y + c) % 4294967296) (ho : o = (x + y + c) / 4294967296) (w : World) (hb : Blk w pc 82 #[.int .u32 (c : Int)]) :
    Calls Tryz.prog 86 #[.int .u32 (x : Int), .int .u32 (y : Int), .pointer (some ⟨pc, 0, none⟩)] w fun e w' => e = .returned (.int .u32 (s : Int)) ∧ CarrySt w w' pc o := by
  have h1 : w.cell? ⟨pc, 0, none⟩ = some (.int .u32 (c : Int)) := by rw [hb.cell]; rfl
  have h2 := hb.frozen 0
  have h3 := hb.lt
  have H1 := Lib.hid (add32_any x y c hx hy hc w)
  rw [← hs, ← ho] at H1
  clear hs ho
  go_enter Tryz.func86, Tryz.ntmps86
  go_wp2_with (go_at_call 87; refine H1.out.mono ?_; rintro e w1 ⟨rfl, rfl⟩)
  go_ret
  exact ⟨rfl, hb.set_ 0 _, fun g t cs hg h => h.far hg _, fun B b h hB => h.setCell hB _⟩

theorem dig_at {ds : List Nat} (h : Dig ds) (k : Nat) : ds.getD k 0 < 4294967296 := by
  rw [List.getD_eq_getElem?_getD]
  rcases Nat.lt_or_ge k ds.length with hk | hk
  · rw [List.getElem?_eq_getElem hk]; exact h _ (List.getElem_mem _)
  · rw [List.getElem?_eq_none hk]; decide
/-- one digit more -/
theorem add_step {p vz c xa xb va vb s o : Nat} (h : vz + p * c = va + vb) (hs : s = (xa + xb + c) % 4294967296) (ho : o = (xa + xb + c) / 4294967296) :
    vz + p * s + p * 4294967296 * o = (va + p * xa) + (vb + p * xb) := by
  have e : xa + xb + c = s + 4294967296 * o := by omega
  have e2 : p * (xa + xb + c) = p * (s + 4294967296 * o) := by rw [e]
  rw [Nat.mul_add, Nat.mul_add, Nat.mul_add, ← Nat.mul_assoc] at e2
  omega

/-- the sum so far: digits zs, the carry c, at the place k -/
structure AddSt (zs : List Nat) (c k n X : Nat) : Prop where
  len : zs.length = n
  dg : Dig zs
  zero : ∀ j, k ≤ j → j < n → zs.getD j 0 = 0
  sum : val zs + 4294967296 ^ k * c = X
  carry : c ≤ 1
theorem AddSt.step {zs : List Nat} {c k n va vb xa xb : Nat} (h : AddSt zs c k n (va + vb)) (hk : k < n) (hxa : xa < 4294967296) (hxb : xb < 4294967296) :
    AddSt (zs.set k ((xa + xb + c) % 4294967296)) ((xa + xb + c) / 4294967296) (k + 1) n ((va + 4294967296 ^ k * xa) + (vb + 4294967296 ^ k * xb)) := by
  have hc := h.carry
  refine ⟨by simp [h.len], fun d hd => ?_, fun j h1 h2 => ?_, ?_, by omega⟩
  · rcases List.mem_or_eq_of_mem_set hd with hd | rfl
    · exact h.dg d hd
    · exact Nat.mod_lt _ (by decide)
  · have := h.zero j (by omega) h2
    rw [List.getD_eq_getElem?_getD, List.getElem?_set_ne (by omega), ← List.getD_eq_getElem?_getD]
    exact this
  · have h0 := h.zero k (Nat.le_refl _) hk
    have hs := val_set (ds := zs) (k := k) (by rw [h.len]; exact hk) ((xa + xb + c) % 4294967296)
    rw [h0, Nat.mul_zero, Nat.add_zero] at hs
    rw [hs, Nat.pow_succ]
    exact add_step h.sum rfl rfl
theorem AddSt.last {zs : List Nat} {c k n X : Nat} (h : AddSt zs c k n X) (hk : k < n) : Dig (zs.set k c) ∧ val (zs.set k c) = X := by
  have hc := h.carry
  refine ⟨fun d hd => ?_, ?_⟩
  · rcases List.mem_or_eq_of_mem_set hd with hd | rfl
    · exact h.dg d hd
    · omega
  · have h0 := h.zero k (Nat.le_refl _) hk
    have hs := val_set (ds := zs) (k := k) (by rw [h.len]; exact hk) c
    rw [h0, Nat.mul_zero, Nat.add_zero] at hs
    rw [hs]
    exact h.sum
theorem addSt0 (n : Nat) : AddSt (List.replicate n 0) 0 0 n 0 :=
  ⟨by simp, fun d hd => by have := List.eq_of_mem_replicate hd; omega, fun j _ h => by simp [h], by simp [val_zeros], by omega⟩

/-- the greater number of digits first -/
def AddArgs (w : World) (B X : Nat) (u v : Value) : Prop :=
  ∃ (A A' : Option Addr) (c c' : Nat) (a b : List Nat), u = .slice A a.length c ∧ v = .slice A' b.length c' ∧ b.length ≤ a.length ∧ a.length ≤ 900000 ∧ Reads w B 1 A a.length (u32s a) ∧ Reads w B 1 A' b.length (u32s b) ∧ Dig a ∧ Dig b ∧ val a + val b = X

set_option maxHeartbeats 2000000 in
set_option maxRecDepth 100000 in
theorem Add_new (A A' : Option Addr) (c c' B : Nat) (ds es : List Nat) (w : World) (hB : B ≤ w.heap.size) (hc : ds.length ≤ c) (hc' : es.length ≤ c') (hm : ds.length ≤ 900000) (hm' : es.length ≤ 900000)
    (hr : Reads w B 1 A ds.length (u32s ds)) (hr' : Reads w B 1 A' es.length (u32s es)) (hd : Dig ds) (hd' : Dig es) :
    Calls Tryz.prog 63 #[.slice A ds.length c, .slice A' es.length c'] w (NatResN (val ds + val es) w) := by
  have h1 := trim_any A c B ds w hc (by omega) hr hd
  have h2 := trim_any A' c' B es w hc' (by omega) hr' hd'
  have r1 := reads_dig hr hd
  have r2 := reads_dig hr' hd'
  have l1 := dig_len_le hd
  have l2 := dig_len_le hd'
  have g1 := dig_dig (val ds)
  have g2 := dig_dig (val es)
  have v1 := val_dig (val ds)
  have v2 := val_dig (val es)
  generalize val ds = x at *
  generalize val es = y at *
  generalize dig x = a at *
  generalize dig y = b at *
  have H1 := Lib.hid h1; have H2 := Lib.hid h2; have G1 := Lib.hid g1; have G2 := Lib.hid g2; have V1 := Lib.hid v1; have V2 := Lib.hid v2
  clear h1 h2 g1 g2 v1 v2 hr hr' hd hd'
  go_enter Tryz.func63, Tryz.ntmps63
  go_wp2_with fail
  refine (H1.out).mono ?_
  rintro e w1 ⟨rfl, rfl⟩
  go_wp2_with fail
  refine (H2.out).mono ?_
  rintro e w1 ⟨rfl, rfl⟩
  go_upto_if 19 with (fail)
  go_cut [0, 1] (fun u v wc => AddArgs w B (x + y) u v ∧ wc = w)
  case first =>
    by_cases hlt : a.length < b.length
    · go_wp2_with fail
      go_meet
      case rel => exact ⟨⟨A', A, c', c, b, a, rfl, rfl, by omega, by omega, r2, r1, G2.out, G1.out, by rw [V1.out, V2.out, Nat.add_comm]⟩, rfl⟩
    · go_wp2_with fail
      go_meet
      case rel => exact ⟨⟨A, A', c, c', a, b, rfl, rfl, by omega, by omega, r1, r2, G1.out, G2.out, by rw [V1.out, V2.out]⟩, rfl⟩
  case rest =>
    clear H1 H2 G1 G2 V1 V2 r1 r2 l1 l2
    obtain ⟨⟨A, A', c, c', a, b, rfl, rfl, hba, ha9, r1, r2, g1, g2, hv⟩, rfl⟩ := hcut
    have G1 := Lib.hid g1; have G2 := Lib.hid g2; have V := Lib.hid hv
    clear g1 g2 hv
    have hmk := fun (W : World) => Tryz.make_u32 (a.length + 1) (by omega) W
    rw [show ((a.length + 1 : Nat) : Int) = (a.length : Int) + 1 by omega] at hmk
    go_wp2_with fail
    clear hmk
    have hbl0 : Below wc.heap.size wc ((wc.alloc (.cells #[.int .u32 0] 82)).alloc (.cells (u32s (List.replicate (a.length + 1) 0)).toArray 82)) := ((Below.refl _ wc).alloc (Nat.le_refl _) _).alloc (by simp) _
    have hcb0 : Blk ((wc.alloc (.cells #[.int .u32 0] 82)).alloc (.cells (u32s (List.replicate (a.length + 1) 0)).toArray 82)) wc.heap.size 82 #[.int .u32 ((0 : Nat) : Int)] := (Blk.new wc 82 #[.int .u32 0]).alloc _
    have hzb0 : Blk ((wc.alloc (.cells #[.int .u32 0] 82)).alloc (.cells (u32s (List.replicate (a.length + 1) 0)).toArray 82)) (wc.heap.size + 1) 82 (u32s (List.replicate (a.length + 1) 0)).toArray := by
      have := Blk.new (wc.alloc (.cells #[.int .u32 0] 82)) 82 (u32s (List.replicate (a.length + 1) 0)).toArray
      simpa using this
    go_loopg [8, 9, 29] b.length (fun gn _ _ i wr => ∃ (k : Nat) (zs : List Nat) (cr : Nat), k ≤ b.length ∧ gn = b.length - k ∧ i = .int .i64 k ∧ AddSt zs cr k (a.length + 1) (val (a.take k) + val (b.take k)) ∧ Blk wr wc.heap.size 82 #[.int .u32 (cr : Int)] ∧ Blk wr (wc.heap.size + 1) 82 (u32s zs).toArray ∧ Below wc.heap.size wc wr)
    case atStart => exact ⟨0, _, 0, Nat.zero_le _, rfl, rfl, addSt0 _, hcb0, hzb0, hbl0⟩
    case round =>
      clear hcb0 hzb0 hbl0
      obtain ⟨k, zs, cr, hk, hgk, rfl, hst, hcb, hzb, hd⟩ := hrel
      have HG := Lib.hid hgk; clear hgk
      have hz := hd.size
      have hcr := hst.carry
      by_cases hlt : k < b.length
      · obtain ⟨b1, o1, rfl, q1, c1⟩ := nat_at (r1.below (hd.mono hB)) (k := k) (by omega)
        obtain ⟨b2, o2, rfl, q2, c2⟩ := nat_at (r2.below (hd.mono hB)) (k := k) hlt
        have hxa := dig_at G1.out k
        have hxb := dig_at G2.out k
        obtain ⟨s, hs⟩ : ∃ s, s = (a.getD k 0 + b.getD k 0 + cr) % 4294967296 := ⟨_, rfl⟩
        obtain ⟨o, ho⟩ : ∃ o, o = (a.getD k 0 + b.getD k 0 + cr) / 4294967296 := ⟨_, rfl⟩
        have hN := hst.step (by omega) hxa hxb
        rw [← hs, ← ho] at hN
        have HN := Lib.hid hN; clear hN
        have HS := Lib.hid hs; have HO := Lib.hid ho; clear hs ho
        have HTA := Lib.hid (val_take_succ (ds := a) (k := k) (by omega))
        have HTB := Lib.hid (val_take_succ (ds := b) (k := k) hlt)
        generalize a.getD k 0 = xa at *
        generalize b.getD k 0 = xb at *
        have i1 : (k : Int) < a.length := by omega
        have i2 : (k : Int) < b.length := by omega
        have HST := Lib.hid hst; clear hst
        go_wp2_with (go_at_call 86; refine (Add1_any xa xb cr wc.heap.size s o hxa hxb hcr HS.out HO.out _ hcb).mono ?_; rintro e w1 ⟨rfl, hcs⟩; refine Hid.out ?_)
        refine Lib.hid ?_
        have hcb1 := hcs.blk
        have hzb1 := hcs.other _ _ _ (by omega) hzb
        have hd1 := hcs.below _ _ hd (Nat.le_refl _)
        clear hcs hcb hzb hd c1 c2
        have hzl : k < zs.length := by rw [HST.out.len]; omega
        have c3 : w1.cell? ⟨wc.heap.size + 1, k, none⟩ = some (.int .u32 ((zs.getD k 0 : Nat) : Int)) := (hzb1.cell k).trans (u32s_at _ _ hzl)
        have f3 := hzb1.frozen k
        generalize zs.getD k 0 = zk at *
        have z1 := hzb1.lt
        have i3 : (k : Int) < (a.length : Int) + 1 := by omega
        go_wp2_with fail
        go_roundg (b.length - (k + 1))
        case rel =>
          refine ⟨k + 1, zs.set k s, o, by omega, rfl, by go_num, ?_, ?_, ?_, ?_⟩
          · rw [HTA.out, HTB.out]; exact HN.out
          · exact hcb1.far (by show _ ≠ wc.heap.size + 1; omega) _
          · rw [← u32s_set]; exact hzb1.set_ k _
          · exact hd1.setCell (by show _ ≤ wc.heap.size + 1; omega) _
        case measure => have := HG.out; omega
      · obtain rfl : k = b.length := by omega
        rw [List.take_length] at hst
        have HST0 := Lib.hid hst; clear hst
        go_wp2_with fail
        go_loopg [10] (a.length - b.length) (fun gn i wr => ∃ (k : Nat) (zs : List Nat) (cr : Nat), b.length ≤ k ∧ k ≤ a.length ∧ gn = a.length - k ∧ i = .int .i64 k ∧ AddSt zs cr k (a.length + 1) (val (a.take k) + val b) ∧ Blk wr wc.heap.size 82 #[.int .u32 (cr : Int)] ∧ Blk wr (wc.heap.size + 1) 82 (u32s zs).toArray ∧ Below wc.heap.size wc wr)
        case atStart => exact ⟨b.length, zs, cr, Nat.le_refl _, hba, rfl, rfl, HST0.out, hcb, hzb, hd⟩
        case round =>
          clear hcb hzb hd hz hcr HST0 HG
          obtain ⟨k, zs, cr, hbk, hk, hgk, rfl, hst, hcb, hzb, hd⟩ := hrel
          have HG := Lib.hid hgk; clear hgk
          have hz := hd.size
          have hcr := hst.carry
          by_cases hlt : k < a.length
          · obtain ⟨b1, o1, rfl, q1, c1⟩ := nat_at (r1.below (hd.mono hB)) (k := k) hlt
            have hxa := dig_at G1.out k
            obtain ⟨s, hs⟩ : ∃ s, s = (a.getD k 0 + 0 + cr) % 4294967296 := ⟨_, rfl⟩
            obtain ⟨o, ho⟩ : ∃ o, o = (a.getD k 0 + 0 + cr) / 4294967296 := ⟨_, rfl⟩
            have hN := hst.step (xb := 0) (by omega) hxa (by omega)
            rw [← hs, ← ho, Nat.mul_zero, Nat.add_zero] at hN
            have HN := Lib.hid hN; clear hN
            have HS := Lib.hid hs; have HO := Lib.hid ho; clear hs ho
            have HTA := Lib.hid (val_take_succ (ds := a) (k := k) (by omega))
            generalize a.getD k 0 = xa at *
            have i1 : (k : Int) < a.length := by omega
            have HST := Lib.hid hst; clear hst
            have HC := Lib.hid (fun (w : World) (h : Blk w wc.heap.size 82 #[.int .u32 (cr : Int)]) => Add1_any xa 0 cr wc.heap.size s o hxa (by omega) hcr HS.out HO.out w h)
            go_wp2_with (go_at_call 86; refine (HC.out _ hcb).mono ?_; rintro e w1 ⟨rfl, hcs⟩; refine Hid.out ?_)
            refine Lib.hid ?_
            have hcb1 := hcs.blk
            have hzb1 := hcs.other _ _ _ (by omega) hzb
            have hd1 := hcs.below _ _ hd (Nat.le_refl _)
            clear hcs hcb hzb hd c1
            have hzl : k < zs.length := by rw [HST.out.len]; omega
            have c3 : w1.cell? ⟨wc.heap.size + 1, k, none⟩ = some (.int .u32 ((zs.getD k 0 : Nat) : Int)) := (hzb1.cell k).trans (u32s_at _ _ hzl)
            have f3 := hzb1.frozen k
            generalize zs.getD k 0 = zk at *
            have z1 := hzb1.lt
            have i3 : (k : Int) < (a.length : Int) + 1 := by omega
            go_wp2_with fail
            go_roundg (a.length - (k + 1))
            case rel =>
              refine ⟨k + 1, zs.set k s, o, by omega, by omega, rfl, by go_num, ?_, ?_, ?_, ?_⟩
              · rw [HTA.out]; exact HN.out
              · exact hcb1.far (by show _ ≠ wc.heap.size + 1; omega) _
              · rw [← u32s_set]; exact hzb1.set_ k _
              · exact hd1.setCell (by show _ ≤ wc.heap.size + 1; omega) _
            case measure => have := HG.out; omega
          · obtain rfl : k = a.length := by omega
            rw [List.take_length] at hst
            have hzl : a.length < zs.length := by rw [hst.len]; omega
            have hzlen := hst.len
            obtain ⟨hdg, hval⟩ := hst.last (by omega)
            rw [V.out] at hval
            have c0 : wr.cell? ⟨wc.heap.size, 0, none⟩ = some (.int .u32 (cr : Int)) := (hcb.cell 0).trans rfl
            have c3 : wr.cell? ⟨wc.heap.size + 1, a.length, none⟩ = some (.int .u32 ((zs.getD a.length 0 : Nat) : Int)) := (hzb.cell a.length).trans (u32s_at _ _ hzl)
            have f3 := hzb.frozen a.length
            generalize zs.getD a.length 0 = zk at *
            have z0 := hcb.lt
            have z1 := hzb.lt
            have hzb2 : Blk (wr.setCell ⟨wc.heap.size + 1, a.length, none⟩ (.int .u32 (cr : Int))) (wc.heap.size + 1) 82 (u32s (zs.set a.length cr)).toArray := by rw [← u32s_set]; exact hzb.set_ _ _
            have hd2 : Below wc.heap.size wc (wr.setCell ⟨wc.heap.size + 1, a.length, none⟩ (.int .u32 (cr : Int))) := hd.setCell (by show _ ≤ wc.heap.size + 1; omega) _
            have hrd := hzb2.reads (zs.set a.length cr).length (Nat.le_refl _)
            rw [List.take_length] at hrd
            have htr := trim_any (some ⟨wc.heap.size + 1, 0, none⟩) (a.length + 1) _ (zs.set a.length cr) _ (by rw [List.length_set]; omega) (by rw [List.length_set]; omega) hrd hdg
            have hrd2 := (NatN.of_blk (Nat.le_succ wc.heap.size) hzb2).dig hdg
            have hll := dig_len_le hdg
            rw [List.length_set, hzlen] at htr hll
            rw [hval] at htr hrd2 hll
            generalize hws : dig (x + y) = ws at *
            have HW := Lib.hid hws; clear hws
            have HTR := Lib.hid htr; have HRD := Lib.hid hrd2; have HLL := Lib.hid hll; have HD2 := Lib.hid hd2
            clear htr hrd2 hll hrd hzb2 hd2 hst hdg hval hzlen hcb hzb hd
            go_wp2_with fail
            refine (HTR.out).mono ?_
            rintro e w5 ⟨rfl, rfl⟩
            go_wp2_with fail
            go_ret
            exact ⟨_, _, by rw [HW.out]; rfl, by rw [HW.out]; exact HLL.out, by rw [HW.out]; exact HRD.out, HD2.out⟩
theorem Add_any (A A' : Option Addr) (c c' B : Nat) (ds es : List Nat) (w : World) (hB : B ≤ w.heap.size) (hc : ds.length ≤ c) (hc' : es.length ≤ c') (hm : ds.length ≤ 900000) (hm' : es.length ≤ 900000)
    (hr : Reads w B 1 A ds.length (u32s ds)) (hr' : Reads w B 1 A' es.length (u32s es)) (hd : Dig ds) (hd' : Dig es) :
    Calls Tryz.prog 63 #[.slice A ds.length c, .slice A' es.length c'] w (NatRes (val ds + val es) w) :=
  (Add_new A A' c c' B ds es w hB hc hc' hm hm' hr hr' hd hd').mono fun _ _ h => h.res
end Go.Proofs.YtpbapoanjkekmaaGreat

/- Contract of natural.Sub, where the first number is not less than the second. -/
namespace Go.Proofs.YtpbapoanjkekmaaGreat
open Go.RowKit

set_option maxHeartbeats 400000 in
theorem Sub1_any (x y c pc s o : Nat) (hx : x < 4294967296) (hy : y < 4294967296) (hc : c ≤ 1) (hs : s = (x + 4294967296 - y - c) % 4294967296) (ho : o = if x < y + c then 1 else 0) (w : World) (hb : Blk w pc 82 #[.int .u32 (c : Int)]) :
    Calls Tryz.prog 88 #[.int .u32 (x : Int), .int .u32 (y : Int), .pointer (some ⟨pc, 0, none⟩)] w fun e w' => e = .returned (.int .u32 (s : Int)) ∧ CarrySt w w' pc o := by
  have h1 : w.cell? ⟨pc, 0, none⟩ = some (.int .u32 (c : Int)) := by rw [hb.cell]; rfl
  have h2 := hb.frozen 0
  have h3 := hb.lt
  have H1 := Lib.hid (sub32_any x y c hx hy hc w)
  rw [← hs, ← ho] at H1
  clear hs ho
  go_enter Tryz.func88, Tryz.ntmps88
  go_wp2_with (go_at_call 89; refine H1.out.mono ?_; rintro e w1 ⟨rfl, rfl⟩)
  go_ret
  exact ⟨rfl, hb.set_ 0 _, fun g t cs hg h => h.far hg _, fun B b h hB => h.setCell hB _⟩

theorem sub_step {p vz c xa xb va vb s o : Nat} (h : vz + vb = va + p * c) (hxa : xa < 4294967296) (hxb : xb < 4294967296) (hc : c ≤ 1) (hs : s = (xa + 4294967296 - xb - c) % 4294967296) (ho : o = if xa < xb + c then 1 else 0) :
    vz + p * s + (vb + p * xb) = (va + p * xa) + p * 4294967296 * o := by
  have e : s + xb + c = xa + 4294967296 * o := by
    by_cases h : xa < xb + c
    · rw [if_pos h] at ho; omega
    · rw [if_neg h] at ho; omega
  have e2 : p * (s + xb + c) = p * (xa + 4294967296 * o) := by rw [e]
  rw [Nat.mul_add, Nat.mul_add, Nat.mul_add, ← Nat.mul_assoc] at e2
  omega

/-- the difference so far: digits zs, the borrow c, at the place k -/
structure SubSt (zs : List Nat) (c k n X Y : Nat) : Prop where
  len : zs.length = n
  dg : Dig zs
  zero : ∀ j, k ≤ j → j < n → zs.getD j 0 = 0
  sum : val zs + Y = X + 4294967296 ^ k * c
  carry : c ≤ 1
theorem SubSt.step {zs : List Nat} {c k n va vb xa xb s o : Nat} (h : SubSt zs c k n va vb) (hk : k < n) (hxa : xa < 4294967296) (hxb : xb < 4294967296) (hs0 : s = (xa + 4294967296 - xb - c) % 4294967296) (ho : o = if xa < xb + c then 1 else 0) :
    SubSt (zs.set k s) o (k + 1) n (va + 4294967296 ^ k * xa) (vb + 4294967296 ^ k * xb) := by
  have hc := h.carry
  refine ⟨by simp [h.len], fun d hd => ?_, fun j h1 h2 => ?_, ?_, by split at ho <;> omega⟩
  · rcases List.mem_or_eq_of_mem_set hd with hd | rfl
    · exact h.dg d hd
    · rw [hs0]; exact Nat.mod_lt _ (by decide)
  · have := h.zero j (by omega) h2
    rw [List.getD_eq_getElem?_getD, List.getElem?_set_ne (by omega), ← List.getD_eq_getElem?_getD]
    exact this
  · have h0 := h.zero k (Nat.le_refl _) hk
    have hs := val_set (ds := zs) (k := k) (by rw [h.len]; exact hk) s
    rw [h0, Nat.mul_zero, Nat.add_zero] at hs
    rw [hs, Nat.pow_succ]
    exact sub_step h.sum hxa hxb hc hs0 ho
theorem SubSt.last {zs : List Nat} {c n X Y : Nat} (h : SubSt zs c n n X Y) (hle : Y ≤ X) : val zs = X - Y := by
  have hc := h.carry
  have h1 := val_lt h.dg
  rw [h.len] at h1
  have h2 := h.sum
  have : c = 0 ∨ c = 1 := by omega
  rcases this with rfl | rfl
  · omega
  · generalize 4294967296 ^ n = p at *; omega
theorem subSt0 (n : Nat) : SubSt (List.replicate n 0) 0 0 n 0 0 :=
  ⟨by simp, fun d hd => by have := List.eq_of_mem_replicate hd; omega, fun j _ h => by simp [h], by simp [val_zeros], by omega⟩

/-- how Sub ends -/
def SubRes (v : Nat) (w : World) (e : Ending) (w' : World) : Prop :=
  ∃ A c, e = .returned (.tuple #[.slice A (dig v).length c, .bool true]) ∧ (dig v).length ≤ c ∧ NatB w' A (dig v) ∧ Below w.heap.size w w'
/-- the same, in a new block -/
def SubResN (v : Nat) (w : World) (e : Ending) (w' : World) : Prop :=
  ∃ A c, e = .returned (.tuple #[.slice A (dig v).length c, .bool true]) ∧ (dig v).length ≤ c ∧ NatN w.heap.size w' A (dig v) ∧ Below w.heap.size w w'
theorem SubResN.res {v : Nat} {w : World} {e : Ending} {w' : World} (h : SubResN v w e w') : SubRes v w e w' := by
  obtain ⟨A, c, h1, h2, h3, h4⟩ := h
  exact ⟨A, c, h1, h2, h3.nat, h4⟩

set_option maxHeartbeats 2000000 in
set_option maxRecDepth 100000 in
theorem Sub_new (A A' : Option Addr) (c c' B : Nat) (ds es : List Nat) (w : World) (hB : B ≤ w.heap.size) (hc : ds.length ≤ c) (hc' : es.length ≤ c') (hm : ds.length ≤ 900000) (hm' : es.length ≤ 900000)
    (hr : Reads w B 1 A ds.length (u32s ds)) (hr' : Reads w B 1 A' es.length (u32s es)) (hd : Dig ds) (hd' : Dig es) (hle : val es ≤ val ds) :
    Calls Tryz.prog 65 #[.slice A ds.length c, .slice A' es.length c'] w (SubResN (val ds - val es) w) := by
  have h1 := trim_any A c B ds w hc (by omega) hr hd
  have h2 := trim_any A' c' B es w hc' (by omega) hr' hd'
  have r1 := reads_dig hr hd
  have r2 := reads_dig hr' hd'
  have l1 := dig_len_le hd
  have l2 := dig_len_le hd'
  have g1 := dig_dig (val ds)
  have g2 := dig_dig (val es)
  have v1 := val_dig (val ds)
  have v2 := val_dig (val es)
  have hba : (dig (val es)).length ≤ (dig (val ds)).length := by
    rcases Nat.lt_or_ge (dig (val ds)).length (dig (val es)).length with h | h
    · have := dig_len_mono h; omega
    · exact h
  generalize val ds = x at *
  generalize val es = y at *
  generalize dig x = a at *
  generalize dig y = b at *
  have h3 := Cmp_any A A' c c' B a b w (by omega) (by omega) (by omega) (by omega) r1 r2 g1 g2
  rw [v1, v2] at h3
  have hcm : 0 ≤ cmpN x y := by unfold cmpN; split; omega; split <;> omega
  generalize cmpN x y = cm at *
  have H1 := Lib.hid h1; have H2 := Lib.hid h2; have H3 := Lib.hid h3; have G1 := Lib.hid g1; have G2 := Lib.hid g2; have V1 := Lib.hid v1; have V2 := Lib.hid v2
  clear h1 h2 h3 g1 g2 v1 v2 hr hr' hd hd'
  go_enter Tryz.func65, Tryz.ntmps65
  go_wp2_with fail
  refine (H1.out).mono ?_
  rintro e w1 ⟨rfl, rfl⟩
  go_wp2_with fail
  refine (H2.out).mono ?_
  rintro e w1 ⟨rfl, rfl⟩
  have hmk := fun (W : World) => Tryz.make_u32 a.length (by omega) W
  go_wp2_with fail
  refine (H3.out).mono ?_
  rintro e wc ⟨rfl, hdr⟩
  have hwc : wc.heap.size = w.heap.size := by rw [hdr.heap]
  have hbw := hdr.below w.heap.size
  have r1 := r1.drawn hdr
  have r2 := r2.drawn hdr
  have hB : B ≤ wc.heap.size := by omega
  clear H1 H2 H3 hdr
  have HWC := Lib.hid hwc; have HBW := Lib.hid hbw; clear hwc hbw
  go_wp2_with fail
  clear hmk
  have hbl0 : Below wc.heap.size wc ((wc.alloc (.cells #[.int .u32 0] 82)).alloc (.cells (u32s (List.replicate a.length 0)).toArray 82)) := ((Below.refl _ wc).alloc (Nat.le_refl _) _).alloc (by simp) _
  have hcb0 : Blk ((wc.alloc (.cells #[.int .u32 0] 82)).alloc (.cells (u32s (List.replicate a.length 0)).toArray 82)) wc.heap.size 82 #[.int .u32 ((0 : Nat) : Int)] := (Blk.new wc 82 #[.int .u32 0]).alloc _
  have hzb0 : Blk ((wc.alloc (.cells #[.int .u32 0] 82)).alloc (.cells (u32s (List.replicate a.length 0)).toArray 82)) (wc.heap.size + 1) 82 (u32s (List.replicate a.length 0)).toArray := by
    have := Blk.new (wc.alloc (.cells #[.int .u32 0] 82)) 82 (u32s (List.replicate a.length 0)).toArray
    simpa using this
  go_loopg [9, 10, 26] b.length (fun gn _ _ i wr => ∃ (k : Nat) (zs : List Nat) (cr : Nat), k ≤ b.length ∧ gn = b.length - k ∧ i = .int .i64 k ∧ SubSt zs cr k a.length (val (a.take k)) (val (b.take k)) ∧ Blk wr wc.heap.size 82 #[.int .u32 (cr : Int)] ∧ Blk wr (wc.heap.size + 1) 82 (u32s zs).toArray ∧ Below wc.heap.size wc wr)
  case atStart => exact ⟨0, _, 0, Nat.zero_le _, rfl, rfl, subSt0 _, hcb0, hzb0, hbl0⟩
  case round =>
    clear hcb0 hzb0 hbl0
    obtain ⟨k, zs, cr, hk, hgk, rfl, hst, hcb, hzb, hd⟩ := hrel
    have HG := Lib.hid hgk; clear hgk
    have hz := hd.size
    have hcr := hst.carry
    by_cases hlt : k < b.length
    · obtain ⟨b1, o1, rfl, q1, c1⟩ := nat_at (r1.below (hd.mono hB)) (k := k) (by omega)
      obtain ⟨b2, o2, rfl, q2, c2⟩ := nat_at (r2.below (hd.mono hB)) (k := k) hlt
      have hxa := dig_at G1.out k
      have hxb := dig_at G2.out k
      obtain ⟨s, hs⟩ : ∃ s, s = (a.getD k 0 + 4294967296 - b.getD k 0 - cr) % 4294967296 := ⟨_, rfl⟩
      obtain ⟨o, ho⟩ : ∃ o, o = (if a.getD k 0 < b.getD k 0 + cr then 1 else 0 : Nat) := ⟨_, rfl⟩
      have hN := hst.step (by omega) hxa hxb hs ho
      have HN := Lib.hid hN; clear hN
      have HS := Lib.hid hs; have HO := Lib.hid ho; clear hs ho
      have HTA := Lib.hid (val_take_succ (ds := a) (k := k) (by omega))
      have HTB := Lib.hid (val_take_succ (ds := b) (k := k) hlt)
      generalize a.getD k 0 = xa at *
      generalize b.getD k 0 = xb at *
      have i1 : (k : Int) < a.length := by omega
      have i2 : (k : Int) < b.length := by omega
      have HST := Lib.hid hst; clear hst
      go_wp2_with (go_at_call 88; refine (Sub1_any xa xb cr wc.heap.size s o hxa hxb hcr HS.out HO.out _ hcb).mono ?_; rintro e w1 ⟨rfl, hcs⟩; refine Hid.out ?_)
      refine Lib.hid ?_
      have hcb1 := hcs.blk
      have hzb1 := hcs.other _ _ _ (by omega) hzb
      have hd1 := hcs.below _ _ hd (Nat.le_refl _)
      clear hcs hcb hzb hd c1 c2
      have hzl : k < zs.length := by rw [HST.out.len]; omega
      have c3 : w1.cell? ⟨wc.heap.size + 1, k, none⟩ = some (.int .u32 ((zs.getD k 0 : Nat) : Int)) := (hzb1.cell k).trans (u32s_at _ _ hzl)
      have f3 := hzb1.frozen k
      generalize zs.getD k 0 = zk at *
      have z1 := hzb1.lt
      have i3 : (k : Int) < (a.length : Int) := by omega
      go_wp2_with fail
      go_roundg (b.length - (k + 1))
      case rel =>
        refine ⟨k + 1, zs.set k s, o, by omega, rfl, by go_num, ?_, ?_, ?_, ?_⟩
        · rw [HTA.out, HTB.out]; exact HN.out
        · exact hcb1.far (by show _ ≠ wc.heap.size + 1; omega) _
        · rw [← u32s_set]; exact hzb1.set_ k _
        · exact hd1.setCell (by show _ ≤ wc.heap.size + 1; omega) _
      case measure => have := HG.out; omega
    · obtain rfl : k = b.length := by omega
      rw [List.take_length] at hst
      have HST0 := Lib.hid hst; clear hst
      go_wp2_with fail
      go_loopg [11] (a.length - b.length) (fun gn i wr => ∃ (k : Nat) (zs : List Nat) (cr : Nat), b.length ≤ k ∧ k ≤ a.length ∧ gn = a.length - k ∧ i = .int .i64 k ∧ SubSt zs cr k a.length (val (a.take k)) (val b) ∧ Blk wr wc.heap.size 82 #[.int .u32 (cr : Int)] ∧ Blk wr (wc.heap.size + 1) 82 (u32s zs).toArray ∧ Below wc.heap.size wc wr)
      case atStart => exact ⟨b.length, zs, cr, Nat.le_refl _, hba, rfl, rfl, HST0.out, hcb, hzb, hd⟩
      case round =>
        clear hcb hzb hd hz hcr HST0 HG
        obtain ⟨k, zs, cr, hbk, hk, hgk, rfl, hst, hcb, hzb, hd⟩ := hrel
        have HG := Lib.hid hgk; clear hgk
        have hz := hd.size
        have hcr := hst.carry
        by_cases hlt : k < a.length
        · obtain ⟨b1, o1, rfl, q1, c1⟩ := nat_at (r1.below (hd.mono hB)) (k := k) hlt
          have hxa := dig_at G1.out k
          obtain ⟨s, hs⟩ : ∃ s, s = (a.getD k 0 + 4294967296 - 0 - cr) % 4294967296 := ⟨_, rfl⟩
          obtain ⟨o, ho⟩ : ∃ o, o = (if a.getD k 0 < 0 + cr then 1 else 0 : Nat) := ⟨_, rfl⟩
          have hN := hst.step (xb := 0) (by omega) hxa (by omega) hs ho
          rw [Nat.mul_zero, Nat.add_zero] at hN
          have HN := Lib.hid hN; clear hN
          have HS := Lib.hid hs; have HO := Lib.hid ho; clear hs ho
          have HTA := Lib.hid (val_take_succ (ds := a) (k := k) (by omega))
          generalize a.getD k 0 = xa at *
          have i1 : (k : Int) < a.length := by omega
          have HST := Lib.hid hst; clear hst
          have HC := Lib.hid (fun (w : World) (h : Blk w wc.heap.size 82 #[.int .u32 (cr : Int)]) => Sub1_any xa 0 cr wc.heap.size s o hxa (by omega) hcr HS.out HO.out w h)
          go_wp2_with (go_at_call 88; refine (HC.out _ hcb).mono ?_; rintro e w1 ⟨rfl, hcs⟩; refine Hid.out ?_)
          refine Lib.hid ?_
          have hcb1 := hcs.blk
          have hzb1 := hcs.other _ _ _ (by omega) hzb
          have hd1 := hcs.below _ _ hd (Nat.le_refl _)
          clear hcs hcb hzb hd c1
          have hzl : k < zs.length := by rw [HST.out.len]; omega
          have c3 : w1.cell? ⟨wc.heap.size + 1, k, none⟩ = some (.int .u32 ((zs.getD k 0 : Nat) : Int)) := (hzb1.cell k).trans (u32s_at _ _ hzl)
          have f3 := hzb1.frozen k
          generalize zs.getD k 0 = zk at *
          have z1 := hzb1.lt
          have i3 : (k : Int) < (a.length : Int) := by omega
          go_wp2_with fail
          go_roundg (a.length - (k + 1))
          case rel =>
            refine ⟨k + 1, zs.set k s, o, by omega, by omega, rfl, by go_num, ?_, ?_, ?_, ?_⟩
            · rw [HTA.out]; exact HN.out
            · exact hcb1.far (by show _ ≠ wc.heap.size + 1; omega) _
            · rw [← u32s_set]; exact hzb1.set_ k _
            · exact hd1.setCell (by show _ ≤ wc.heap.size + 1; omega) _
          case measure => have := HG.out; omega
        · obtain rfl : k = a.length := by omega
          rw [List.take_length] at hst
          have hzlen := hst.len
          have hval := hst.last (by rw [V1.out, V2.out]; exact hle)
          have hdg := hst.dg
          rw [V1.out, V2.out] at hval
          have hrd := hzb.reads zs.length (Nat.le_refl _)
          rw [List.take_length] at hrd
          have htr := trim_any (some ⟨wc.heap.size + 1, 0, none⟩) a.length _ zs _ (by omega) (by omega) hrd hdg
          have hrd2 := (NatN.of_blk (b := w.heap.size) (by rw [HWC.out]; omega) hzb).dig hdg
          have hll := dig_len_le hdg
          rw [hzlen] at htr hll
          rw [hval] at htr hrd2 hll
          generalize hws : dig (x - y) = ws at *
          have HW := Lib.hid hws; clear hws
          have HTR := Lib.hid htr; have HRD := Lib.hid hrd2; have HLL := Lib.hid hll
          clear htr hrd2 hll hrd hst hdg hval hzlen hcb hzb
          go_wp2_with fail
          refine (HTR.out).mono ?_
          rintro e w5 ⟨rfl, rfl⟩
          go_wp2_with fail
          go_ret2
          exact ⟨_, _, by rw [HW.out]; rfl, by rw [HW.out]; exact HLL.out, by rw [HW.out]; exact HRD.out, HBW.out.trans (hd.mono (by rw [HWC.out]; omega))⟩
theorem Sub_any (A A' : Option Addr) (c c' B : Nat) (ds es : List Nat) (w : World) (hB : B ≤ w.heap.size) (hc : ds.length ≤ c) (hc' : es.length ≤ c') (hm : ds.length ≤ 900000) (hm' : es.length ≤ 900000)
    (hr : Reads w B 1 A ds.length (u32s ds)) (hr' : Reads w B 1 A' es.length (u32s es)) (hd : Dig ds) (hd' : Dig es) (hle : val es ≤ val ds) :
    Calls Tryz.prog 65 #[.slice A ds.length c, .slice A' es.length c'] w (SubRes (val ds - val es) w) :=
  (Sub_new A A' c c' B ds es w hB hc hc' hm hm' hr hr' hd hd' hle).mono fun _ _ h => h.res
end Go.Proofs.YtpbapoanjkekmaaGreat

/- Contracts of math/bits.Mul32 and of natural.schoolbook. -/
namespace Go.Proofs.YtpbapoanjkekmaaGreat
open Go.RowKit

theorem mul_bound {x y : Nat} (hx : x < 4294967296) (hy : y < 4294967296) : x * y ≤ 18446744065119617025 := by
  have := Nat.mul_le_mul (show x ≤ 4294967295 by omega) (show y ≤ 4294967295 by omega)
  omega

set_option maxHeartbeats 400000 in
theorem mul32_any (x y : Nat) (hx : x < 4294967296) (hy : y < 4294967296) (w : World) :
    Calls Tryz.prog 118 #[.int .u32 (x : Int), .int .u32 (y : Int)] w fun e w' => e = .returned (.tuple #[.int .u32 ((x * y / 4294967296 : Nat) : Int), .int .u32 ((x * y % 4294967296 : Nat) : Int)]) ∧ w = w' := by
  have h1 : (x : Int) * (y : Int) ≤ 18446744065119617025 := by have := mul_bound hx hy; rw [← Int.natCast_mul]; omega
  have h0 : 0 ≤ (x : Int) * (y : Int) := by rw [← Int.natCast_mul]; omega
  have e1 : ((x * y / 4294967296 : Nat) : Int) = (x : Int) * (y : Int) / 4294967296 := by rw [Int.natCast_ediv, Int.natCast_mul]; rfl
  have e2 : ((x * y % 4294967296 : Nat) : Int) = (x : Int) * (y : Int) % 4294967296 := by rw [Int.natCast_emod, Int.natCast_mul]; rfl
  rw [e1, e2]
  clear e1 e2
  go_enter Tryz.func118, Tryz.ntmps118
  go_wp2
  go_ret2
  exact ⟨rfl, rfl⟩

/-- the product's rows so far -/
structure RowSt (zs : List Nat) (n m i V : Nat) : Prop where
  len : zs.length = n
  dg : Dig zs
  zero : ∀ j, i + m ≤ j → j < n → zs.getD j 0 = 0
  sum : val zs = V
/-- a row so far: the carry c at the place j -/
structure RowIn (zs : List Nat) (n m i j c V : Nat) : Prop where
  len : zs.length = n
  dg : Dig zs
  zero : ∀ j, i + m ≤ j → j < n → zs.getD j 0 = 0
  sum : val zs + 4294967296 ^ (i + j) * c = V
  carry : c < 4294967296
theorem rowSt0 (n m : Nat) : RowSt (List.replicate n 0) n m 0 0 :=
  ⟨by simp, fun d hd => by have := List.eq_of_mem_replicate hd; omega, fun j _ h => by simp [h], val_zeros _⟩
theorem RowSt.row {zs : List Nat} {n m i V : Nat} (h : RowSt zs n m i V) : RowIn zs n m i 0 0 V := ⟨h.len, h.dg, h.zero, by simp [h.sum], by omega⟩
theorem RowSt.skip {zs : List Nat} {n m i V : Nat} (h : RowSt zs n m i V) : RowSt zs n m (i + 1) V := ⟨h.len, h.dg, fun j h1 h2 => h.zero j (by omega) h2, h.sum⟩
theorem RowIn.step {zs : List Nat} {n m i j c V x y s o : Nat} (h : RowIn zs n m i j c V) (hj : i + j < n) (hjm : j < m) (hs : s < 4294967296) (ho : o < 4294967296) (he : s + 4294967296 * o = x * y + zs.getD (i + j) 0 + c) :
    RowIn (zs.set (i + j) s) n m i (j + 1) o (V + 4294967296 ^ i * (x * (4294967296 ^ j * y))) := by
  refine ⟨by simp [h.len], fun d hd => ?_, fun k h1 h2 => ?_, ?_, ho⟩
  · rcases List.mem_or_eq_of_mem_set hd with hd | rfl
    · exact h.dg d hd
    · exact hs
  · have := h.zero k h1 h2
    rw [List.getD_eq_getElem?_getD, List.getElem?_set_ne (by omega), ← List.getD_eq_getElem?_getD]
    exact this
  · have hv := val_set (ds := zs) (k := i + j) (by rw [h.len]; exact hj) s
    have h0 := h.sum
    have e1 : 4294967296 ^ (i + (j + 1)) * o = 4294967296 ^ (i + j) * (4294967296 * o) := by rw [← Nat.add_assoc, Nat.pow_succ, Nat.mul_assoc]
    have e2 : 4294967296 ^ i * (x * (4294967296 ^ j * y)) = 4294967296 ^ (i + j) * (x * y) := by
      rw [Nat.pow_add, Nat.mul_left_comm x, Nat.mul_assoc]
    have e3 : 4294967296 ^ (i + j) * (s + 4294967296 * o) = 4294967296 ^ (i + j) * (x * y + zs.getD (i + j) 0 + c) := by rw [he]
    rw [Nat.mul_add, Nat.mul_add, Nat.mul_add] at e3
    rw [e1, e2]
    omega
theorem RowIn.last {zs : List Nat} {n m i c V : Nat} (h : RowIn zs n m i m c V) (hj : i + m < n) : RowSt (zs.set (i + m) c) n m (i + 1) V := by
  refine ⟨by simp [h.len], fun d hd => ?_, fun k h1 h2 => ?_, ?_⟩
  · rcases List.mem_or_eq_of_mem_set hd with hd | rfl
    · exact h.dg d hd
    · exact h.carry
  · have := h.zero k (by omega) h2
    rw [List.getD_eq_getElem?_getD, List.getElem?_set_ne (by omega), ← List.getD_eq_getElem?_getD]
    exact this
  · have hv := val_set (ds := zs) (k := i + m) (by rw [h.len]; exact hj) c
    have h0 := h.sum
    rw [h.zero (i + m) (Nat.le_refl _) hj, Nat.mul_zero, Nat.add_zero] at hv
    omega
/-- the two digits of a row's step -/
theorem row_digits {x y r c : Nat} (hx : x < 4294967296) (hy : y < 4294967296) (hr : r < 4294967296) (hc : c < 4294967296) :
    x * y / 4294967296 + (x * y % 4294967296 + r + 0) / 4294967296 + ((x * y % 4294967296 + r + 0) % 4294967296 + c + 0) / 4294967296 < 4294967296 ∧
    ((x * y % 4294967296 + r + 0) % 4294967296 + c + 0) % 4294967296 + 4294967296 * (x * y / 4294967296 + (x * y % 4294967296 + r + 0) / 4294967296 + ((x * y % 4294967296 + r + 0) % 4294967296 + c + 0) / 4294967296) = x * y + r + c := by
  have := mul_bound hx hy
  generalize x * y = p at *
  omega

theorem row_sum {p x v q y V : Nat} : V + p * (x * v) + p * (x * (q * y)) = V + p * (x * (v + q * y)) := by
  rw [Nat.mul_add, Nat.mul_add, Nat.add_assoc]
theorem row_end {v p x b : Nat} : v * b + p * (x * b) = (v + p * x) * b := by rw [Nat.add_mul, Nat.mul_assoc]
/-- how a product of a's and b's digits ends -/
def ProdRes (n v : Nat) (w : World) (e : Ending) (w' : World) : Prop :=
  ∃ A c zs, e = .returned (.slice A (List.length zs) c) ∧ zs.length ≤ c ∧ zs.length = n ∧ Dig zs ∧ val zs = v ∧ NatB w' A zs ∧ Below w.heap.size w w'
/-- the same, in a new block -/
def ProdN (n v : Nat) (w : World) (e : Ending) (w' : World) : Prop :=
  ∃ A c zs, e = .returned (.slice A (List.length zs) c) ∧ zs.length ≤ c ∧ zs.length = n ∧ Dig zs ∧ val zs = v ∧ NatN w.heap.size w' A zs ∧ Below w.heap.size w w'
theorem ProdN.res {n v : Nat} {w : World} {e : Ending} {w' : World} (h : ProdN n v w e w') : ProdRes n v w e w' := by
  obtain ⟨A, c, zs, h1, h2, h3, h4, h5, h6, h7⟩ := h
  exact ⟨A, c, zs, h1, h2, h3, h4, h5, h6.nat, h7⟩

set_option maxHeartbeats 2000000 in
set_option maxRecDepth 100000 in
theorem school_new (A A' : Option Addr) (c c' B : Nat) (a b : List Nat) (w : World) (hB : B ≤ w.heap.size) (hm : a.length + b.length ≤ 900000)
    (r1 : Reads w B 1 A a.length (u32s a)) (r2 : Reads w B 1 A' b.length (u32s b)) (g1 : Dig a) (g2 : Dig b) :
    Calls Tryz.prog 109 #[.slice A a.length c, .slice A' b.length c'] w (ProdN (a.length + b.length) (val a * val b) w) := by
  have G1 := Lib.hid g1; have G2 := Lib.hid g2
  clear g1 g2
  have hmk := fun (W : World) => Tryz.make_u32 (a.length + b.length) (by omega) W
  rw [show ((a.length + b.length : Nat) : Int) = (a.length : Int) + (b.length : Int) by omega] at hmk
  go_enter Tryz.func109, Tryz.ntmps109
  go_wp2_with fail
  clear hmk
  go_loopg [6, 7, 8, 9, 10, 11, 12, 13, 14, 23] a.length (fun gn _ _ _ _ _ _ _ _ _ i wr => ∃ (k : Nat) (zs : List Nat), k ≤ a.length ∧ gn = a.length - k ∧ i = .int .i64 k ∧ RowSt zs (a.length + b.length) b.length k (val (a.take k) * val b) ∧ Blk wr w.heap.size 82 (u32s zs).toArray ∧ Below w.heap.size w wr)
  case atStart => exact ⟨0, _, Nat.zero_le _, rfl, rfl, by simpa [val] using rowSt0 _ _, Blk.new _ _ _, (Below.refl _ w).alloc (Nat.le_refl _) _⟩
  case round =>
    obtain ⟨i, zs, hi, hgi, rfl, hst, hzb, hd⟩ := hrel
    have HG := Lib.hid hgi; clear hgi
    have hz := hd.size
    by_cases hlt : i < a.length
    · obtain ⟨b1, o1, rfl, q1, c1⟩ := nat_at (r1.below (hd.mono hB)) (k := i) hlt
      have hx := dig_at G1.out i
      have HTA := Lib.hid (val_take_succ (ds := a) (k := i) hlt)
      have i1 : (i : Int) < a.length := by omega
      generalize a.getD i 0 = x at *
      by_cases hx0 : x = 0
      · subst hx0
        have hs2 := hst.skip
        have HS2 := Lib.hid hs2
        clear hst hs2
        go_wp2_with fail
        go_roundg (a.length - (i + 1))
        case rel => exact ⟨i + 1, zs, by omega, rfl, by go_num, by rw [HTA.out]; simpa using HS2.out, hzb, hd⟩
        case measure => have := HG.out; omega
      · have hxb : ((x : Int) == 0) = false := by simpa using hx0
        have HX0 := Lib.hid hx0; clear hx0
        have HST := Lib.hid hst; clear hst
        go_wp2_with fail
        go_loopg [9, 10, 11, 12, 13, 14, 35] b.length (fun gn cy _ _ _ _ _ j wr => ∃ (q : Nat) (zs : List Nat) (o : Nat), q ≤ b.length ∧ gn = b.length - q ∧ j = .int .i64 q ∧ cy = .int .u32 (o : Int) ∧ RowIn zs (a.length + b.length) b.length i q o (val (a.take i) * val b + 4294967296 ^ i * (x * val (b.take q))) ∧ Blk wr w.heap.size 82 (u32s zs).toArray ∧ Below w.heap.size w wr)
        case atStart => exact ⟨0, zs, 0, Nat.zero_le _, rfl, rfl, rfl, by simpa [val] using HST.out.row, hzb, hd⟩
        case round =>
          clear HST hzb hd hz c1
          obtain ⟨q, zs, cy, hq, hgq, rfl, rfl, hst, hzb, hd⟩ := hrel
          have HGQ := Lib.hid hgq; clear hgq
          have hz := hd.size
          have hcy := hst.carry
          by_cases hlt2 : q < b.length
          · obtain ⟨b2, o2, rfl, q2, c2⟩ := nat_at (r2.below (hd.mono hB)) (k := q) hlt2
            have hy := dig_at G2.out q
            have HTB := Lib.hid (val_take_succ (ds := b) (k := q) hlt2)
            generalize b.getD q 0 = y at *
            have hzl : i + q < zs.length := by rw [hst.len]; omega
            have c3 : wr.cell? ⟨w.heap.size, i + q, none⟩ = some (.int .u32 ((zs.getD (i + q) 0 : Nat) : Int)) := (hzb.cell (i + q)).trans (u32s_at _ _ hzl)
            have hrr := dig_at hst.dg (i + q)
            have f3 := hzb.frozen (i + q)
            obtain ⟨hd1, hd2⟩ := row_digits hx hy hrr hcy
            have hmu := mul32_any x y hx hy
            have hp := mul_bound hx hy
            have hlo : x * y % 4294967296 < 4294967296 := Nat.mod_lt _ (by decide)
            have ha1 := add32_any (x * y % 4294967296) (zs.getD (i + q) 0) 0 hlo hrr (by omega)
            have hs1 : (x * y % 4294967296 + zs.getD (i + q) 0 + 0) % 4294967296 < 4294967296 := Nat.mod_lt _ (by decide)
            have ha2 := add32_any ((x * y % 4294967296 + zs.getD (i + q) 0 + 0) % 4294967296) cy 0 hs1 hcy (by omega)
            have hs2 : ((x * y % 4294967296 + zs.getD (i + q) 0 + 0) % 4294967296 + cy + 0) % 4294967296 < 4294967296 := Nat.mod_lt _ (by decide)
            have hN := hst.step (x := x) (y := y) (by omega) hlt2 hs2 hd1 hd2
            rw [row_sum] at hN
            generalize ((x * y % 4294967296 + zs.getD (i + q) 0 + 0) % 4294967296 + cy + 0) % 4294967296 = s2 at *
            generalize ((x * y % 4294967296 + zs.getD (i + q) 0 + 0) % 4294967296 + cy + 0) / 4294967296 = k2 at *
            generalize (x * y % 4294967296 + zs.getD (i + q) 0 + 0) % 4294967296 = s1 at *
            generalize (x * y % 4294967296 + zs.getD (i + q) 0 + 0) / 4294967296 = k1 at *
            generalize x * y % 4294967296 = lo at *
            generalize x * y / 4294967296 = hi' at *
            generalize zs.getD (i + q) 0 = r at *
            have HN := Lib.hid hN; have HMU := Lib.hid hmu; have HA1 := Lib.hid ha1; have HA2 := Lib.hid ha2; have HST := Lib.hid hst
            clear hN hmu ha1 ha2 hst hd2 hp
            have i2 : (q : Int) < b.length := by omega
            have i3 : (q : Int) < ((a.length + b.length - i : Nat) : Int) := by omega
            have z1 := hzb.lt
            go_wp2_with fail
            refine (HMU.out _).mono ?_
            rintro e w1 ⟨rfl, rfl⟩
            go_wp2_with fail
            refine (HA1.out _).mono ?_
            rintro e w1 ⟨rfl, rfl⟩
            go_wp2_with fail
            refine (HA2.out _).mono ?_
            rintro e w1 ⟨rfl, rfl⟩
            go_wp2_with fail
            go_roundg (b.length - (q + 1))
            case rel =>
              refine ⟨q + 1, zs.set (i + q) s2, hi' + k1 + k2, by omega, rfl, by go_num, by go_num, ?_, ?_, hd.setCell (Nat.le_refl _) _⟩
              · rw [HTB.out]; exact HN.out
              · rw [← u32s_set]; exact hzb.set_ (i + q) _
            case measure => have := HGQ.out; omega
          · obtain rfl : q = b.length := by omega
            rw [List.take_length] at hst
            have hl := hst.last (by omega)
            rw [row_end] at hl
            have hzl : i + b.length < zs.length := by rw [hst.len]; omega
            have c3 : wr.cell? ⟨w.heap.size, i + b.length, none⟩ = some (.int .u32 ((zs.getD (i + b.length) 0 : Nat) : Int)) := (hzb.cell (i + b.length)).trans (u32s_at _ _ hzl)
            have f3 := hzb.frozen (i + b.length)
            generalize zs.getD (i + b.length) 0 = r at *
            have HL := Lib.hid hl; clear hl hst
            have i3 : (b.length : Int) < ((a.length + b.length - i : Nat) : Int) := by omega
            have z1 := hzb.lt
            go_wp2_with fail
            go_roundg (a.length - (i + 1))
            case rel =>
              refine ⟨i + 1, zs.set (i + b.length) cy, by omega, rfl, by go_num, ?_, ?_, hd.setCell (Nat.le_refl _) _⟩
              · rw [HTA.out]; exact HL.out
              · rw [← u32s_set]; exact hzb.set_ (i + b.length) _
            case measure => have := HG.out; omega
    · obtain rfl : i = a.length := by omega
      rw [List.take_length] at hst
      have HST := Lib.hid hst; clear hst
      go_wp2_with fail
      go_ret
      have hl := HST.out.len
      exact ⟨some ⟨w.heap.size, 0, none⟩, a.length + b.length, zs, by rw [hl]; rfl, by omega, hl, HST.out.dg, HST.out.sum, .of_blk (Nat.le_refl _) hzb, hd⟩
theorem school_any (A A' : Option Addr) (c c' B : Nat) (a b : List Nat) (w : World) (hB : B ≤ w.heap.size) (hm : a.length + b.length ≤ 900000)
    (r1 : Reads w B 1 A a.length (u32s a)) (r2 : Reads w B 1 A' b.length (u32s b)) (g1 : Dig a) (g2 : Dig b) :
    Calls Tryz.prog 109 #[.slice A a.length c, .slice A' b.length c'] w (ProdRes (a.length + b.length) (val a * val b) w) :=
  (school_new A A' c c' B a b w hB hm r1 r2 g1 g2).mono fun _ _ h => h.res
end Go.Proofs.YtpbapoanjkekmaaGreat

/- Contracts of natural.product and Mul, where one of the two numbers has fewer than 48 digits. -/
namespace Go.Proofs.YtpbapoanjkekmaaGreat
open Go.RowKit

set_option maxHeartbeats 1000000 in
set_option maxRecDepth 100000 in
theorem product_few (A A' : Option Addr) (c c' B : Nat) (a b : List Nat) (w : World) (hB : B ≤ w.heap.size) (hm : a.length + b.length ≤ 900000) (h48 : a.length < 48 ∨ b.length < 48)
    (r1 : Reads w B 1 A a.length (u32s a)) (r2 : Reads w B 1 A' b.length (u32s b)) (g1 : Dig a) (g2 : Dig b) :
    Calls Tryz.prog 90 #[.slice A a.length c, .slice A' b.length c'] w (ProdRes (a.length + b.length) (val a * val b) w) := by
  by_cases hlt : a.length < b.length
  · have hs := school_any A A' c c' B a b w hB hm r1 r2 g1 g2
    have HS := Lib.hid hs
    have h48' : a.length < 48 := by omega
    clear hs g1 g2 h48
    go_enter Tryz.func90, Tryz.ntmps90
    go_wp2_with fail
    refine HS.out.mono ?_
    rintro e w1 ⟨A1, c1, zs, rfl, h1, h2, h3, h4, h5, h6⟩
    have H2 := Lib.hid h2; have H3 := Lib.hid h3; have H4 := Lib.hid h4
    clear h2 h3 h4
    go_wp2_with fail
    go_ret
    exact ⟨A1, c1, zs, rfl, h1, H2.out, H3.out, H4.out, h5, h6⟩
  · have hs := school_any A' A c' c B b a w hB (by omega) r2 r1 g2 g1
    have HS := Lib.hid hs
    have h48' : b.length < 48 := by omega
    clear hs g1 g2 h48
    go_enter Tryz.func90, Tryz.ntmps90
    go_wp2_with fail
    refine HS.out.mono ?_
    rintro e w1 ⟨A1, c1, zs, rfl, h1, h2, h3, h4, h5, h6⟩
    rw [Nat.add_comm] at h2
    rw [Nat.mul_comm] at h4
    have H2 := Lib.hid h2; have H3 := Lib.hid h3; have H4 := Lib.hid h4
    clear h2 h3 h4
    go_wp2_with fail
    go_ret
    exact ⟨A1, c1, zs, rfl, h1, H2.out, H3.out, H4.out, h5, h6⟩

set_option maxHeartbeats 1000000 in
set_option maxRecDepth 100000 in
theorem Mul_any (A A' : Option Addr) (c c' B : Nat) (ds es : List Nat) (w : World) (hB : B ≤ w.heap.size) (hc : ds.length ≤ c) (hc' : es.length ≤ c') (hm : ds.length + es.length ≤ 900000) (h48 : ds.length < 48 ∨ es.length < 48)
    (hr : Reads w B 1 A ds.length (u32s ds)) (hr' : Reads w B 1 A' es.length (u32s es)) (hd : Dig ds) (hd' : Dig es) :
    Calls Tryz.prog 66 #[.slice A ds.length c, .slice A' es.length c'] w (NatRes (val ds * val es) w) := by
  have h1 := trim_any A c B ds w hc (by omega) hr hd
  have h2 := trim_any A' c' B es w hc' (by omega) hr' hd'
  have l1 := dig_len_le hd
  have l2 := dig_len_le hd'
  have h3 := product_few A A' c c' B (dig (val ds)) (dig (val es)) w hB (by omega) (by omega) (reads_dig hr hd) (reads_dig hr' hd') (dig_dig _) (dig_dig _)
  rw [val_dig, val_dig] at h3
  have HN : Hid (dig (val ds) = dig (val ds)) := rfl
  generalize val ds = x at *
  generalize val es = y at *
  generalize dig x = a at *
  generalize dig y = b at *
  have H1 := Lib.hid h1; have H2 := Lib.hid h2; have H3 := Lib.hid h3
  clear h1 h2 h3 hr hr' hd hd' HN
  go_enter Tryz.func66, Tryz.ntmps66
  go_wp2_with fail
  refine (H1.out).mono ?_
  rintro e w1 ⟨rfl, rfl⟩
  go_wp2_with fail
  refine (H2.out).mono ?_
  rintro e w1 ⟨rfl, rfl⟩
  go_wp2_with fail
  refine (H3.out).mono ?_
  rintro e w1 ⟨A1, c1, zs, rfl, k1, k2, k3, k4, k5, k6⟩
  have h4 := trim_any A1 c1 _ zs w1 k1 (by omega) k5.reads k3
  have r4 := k5.dig k3
  have l4 := dig_len_le k3
  rw [k4] at h4 r4 l4
  generalize hws : dig (x * y) = ws at *
  have HW := Lib.hid hws; have H4 := Lib.hid h4
  clear hws h4 k2 k3 k4 k5
  go_wp2_with fail
  refine (H4.out).mono ?_
  rintro e w5 ⟨rfl, rfl⟩
  go_wp2_with fail
  go_ret
  exact ⟨A1, c1, by rw [HW.out]; rfl, by rw [HW.out]; omega, by rw [HW.out]; exact r4, k6⟩
end Go.Proofs.YtpbapoanjkekmaaGreat
