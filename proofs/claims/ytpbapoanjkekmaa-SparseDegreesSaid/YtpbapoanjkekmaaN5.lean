/- Contract of natural.Add. -/
import Derived.Test.YtpbapoanjkekmaaN4
namespace Go.Proofs.Ytpbapoanjkekmaa
open Go.RowKit

/-- the block pc has turned, to the digit o; no other one has -/
structure CarrySt (w w' : World) (pc o : Nat) : Prop where
  blk : Blk w' pc 70 #[.int .u32 (o : Int)]
  other : ∀ g t cs, g ≠ pc → Blk w g t cs → Blk w' g t cs
  below : ∀ B b, Below B b w → B ≤ pc → Below B b w'

set_option maxHeartbeats 400000 in
theorem Add1_any (x y c pc s o : Nat) (hx : x < 4294967296) (hy : y < 4294967296) (hc : c ≤ 1) (hs : s = (x + y + c) % 4294967296) (ho : o = (x + y + c) / 4294967296) (w : World) (hb : Blk w pc 70 #[.int .u32 (c : Int)]) :
    Calls Try.prog 75 #[.int .u32 (x : Int), .int .u32 (y : Int), .pointer (some ⟨pc, 0, none⟩)] w fun e w' => e = .returned (.int .u32 (s : Int)) ∧ CarrySt w w' pc o := by
  have h1 : w.cell? ⟨pc, 0, none⟩ = some (.int .u32 (c : Int)) := by rw [hb.cell]; rfl
  have h2 := hb.frozen 0
  have h3 := hb.lt
  have H1 := Lib.hid (add32_any x y c hx hy hc w)
  rw [← hs, ← ho] at H1
  clear hs ho
  go_enter Try.func75, Try.ntmps75
  go_wp2_with (go_at_call 76; refine H1.out.mono ?_; rintro e w1 ⟨rfl, rfl⟩)
  go_ret
  exact ⟨rfl, hb.set_ 0 _, fun g t cs hg h => h.far hg _, fun B b h hB => h.setCell hB _⟩

theorem dig_at {ds : List Nat} (h : Dig ds) (k : Nat) : ds.getD k 0 < 4294967296 := by
  rw [List.getD_eq_getElem?_getD]
  rcases Nat.lt_or_ge k ds.length with hk | hk
  · rw [List.getElem?_eq_getElem hk]; exact h _ (List.getElem_mem _)
  · rw [List.getElem?_eq_none hk]; decide
/-- one digit more -/
theorem add_step {p vz c xa xb va vb s o : Nat} (h : vz + p * c = va + vb) (hs : s = (xa + xb + c) % 4294967296) (ho : o = (xa + xb + c) / 4294967296) :
    vz + p * s + p * 4294967296 * o = (va + p * xa) + (vb + p * xb) := by
  have e : xa + xb + c = s + 4294967296 * o := by omega
  have e2 : p * (xa + xb + c) = p * (s + 4294967296 * o) := by rw [e]
  rw [Nat.mul_add, Nat.mul_add, Nat.mul_add, ← Nat.mul_assoc] at e2
  omega

/-- the sum so far: digits zs, the carry c, at the place k -/
structure AddSt (zs : List Nat) (c k n X : Nat) : Prop where
  len : zs.length = n
  dg : Dig zs
  zero : ∀ j, k ≤ j → j < n → zs.getD j 0 = 0
  sum : val zs + 4294967296 ^ k * c = X
  carry : c ≤ 1
theorem AddSt.step {zs : List Nat} {c k n va vb xa xb : Nat} (h : AddSt zs c k n (va + vb)) (hk : k < n) (hxa : xa < 4294967296) (hxb : xb < 4294967296) :
    AddSt (zs.set k ((xa + xb + c) % 4294967296)) ((xa + xb + c) / 4294967296) (k + 1) n ((va + 4294967296 ^ k * xa) + (vb + 4294967296 ^ k * xb)) := by
  have hc := h.carry
  refine ⟨by simp [h.len], fun d hd => ?_, fun j h1 h2 => ?_, ?_, by omega⟩
  · rcases List.mem_or_eq_of_mem_set hd with hd | rfl
    · exact h.dg d hd
    · exact Nat.mod_lt _ (by decide)
  · have := h.zero j (by omega) h2
    rw [List.getD_eq_getElem?_getD, List.getElem?_set_ne (by omega), ← List.getD_eq_getElem?_getD]
    exact this
  · have h0 := h.zero k (Nat.le_refl _) hk
    have hs := val_set (ds := zs) (k := k) (by rw [h.len]; exact hk) ((xa + xb + c) % 4294967296)
    rw [h0, Nat.mul_zero, Nat.add_zero] at hs
    rw [hs, Nat.pow_succ]
    exact add_step h.sum rfl rfl
theorem AddSt.last {zs : List Nat} {c k n X : Nat} (h : AddSt zs c k n X) (hk : k < n) : Dig (zs.set k c) ∧ val (zs.set k c) = X := by
  have hc := h.carry
  refine ⟨fun d hd => ?_, ?_⟩
  · rcases List.mem_or_eq_of_mem_set hd with hd | rfl
    · exact h.dg d hd
    · omega
  · have h0 := h.zero k (Nat.le_refl _) hk
    have hs := val_set (ds := zs) (k := k) (by rw [h.len]; exact hk) c
    rw [h0, Nat.mul_zero, Nat.add_zero] at hs
    rw [hs]
    exact h.sum
theorem addSt0 (n : Nat) : AddSt (List.replicate n 0) 0 0 n 0 :=
  ⟨by simp, fun d hd => by have := List.eq_of_mem_replicate hd; omega, fun j _ h => by simp [h], by simp [val_zeros], by omega⟩

/-- the greater number of digits first -/
def AddArgs (w : World) (B X : Nat) (u v : Value) : Prop :=
  ∃ (A A' : Option Addr) (c c' : Nat) (a b : List Nat), u = .slice A a.length c ∧ v = .slice A' b.length c' ∧ b.length ≤ a.length ∧ a.length ≤ 900000 ∧ Reads w B 1 A a.length (u32s a) ∧ Reads w B 1 A' b.length (u32s b) ∧ Dig a ∧ Dig b ∧ val a + val b = X

set_option maxHeartbeats 2000000 in
set_option maxRecDepth 100000 in
theorem Add_any (A A' : Option Addr) (c c' B : Nat) (ds es : List Nat) (w : World) (hB : B ≤ w.heap.size) (hc : ds.length ≤ c) (hc' : es.length ≤ c') (hm : ds.length ≤ 900000) (hm' : es.length ≤ 900000)
    (hr : Reads w B 1 A ds.length (u32s ds)) (hr' : Reads w B 1 A' es.length (u32s es)) (hd : Dig ds) (hd' : Dig es) :
    Calls Try.prog 60 #[.slice A ds.length c, .slice A' es.length c'] w (NatRes (val ds + val es) w) := by
  have h1 := trim_any A c B ds w hc (by omega) hr hd
  have h2 := trim_any A' c' B es w hc' (by omega) hr' hd'
  have r1 := reads_dig hr hd
  have r2 := reads_dig hr' hd'
  have l1 := dig_len_le hd
  have l2 := dig_len_le hd'
  have g1 := dig_dig (val ds)
  have g2 := dig_dig (val es)
  have v1 := val_dig (val ds)
  have v2 := val_dig (val es)
  generalize val ds = x at *
  generalize val es = y at *
  generalize dig x = a at *
  generalize dig y = b at *
  have H1 := Lib.hid h1; have H2 := Lib.hid h2; have G1 := Lib.hid g1; have G2 := Lib.hid g2; have V1 := Lib.hid v1; have V2 := Lib.hid v2
  clear h1 h2 g1 g2 v1 v2 hr hr' hd hd'
  go_enter Try.func60, Try.ntmps60
  go_wp2_with fail
  refine (H1.out).mono ?_
  rintro e w1 ⟨rfl, rfl⟩
  go_wp2_with fail
  refine (H2.out).mono ?_
  rintro e w1 ⟨rfl, rfl⟩
  go_upto_if 19 with (fail)
  go_cut [0, 1] (fun u v wc => AddArgs w B (x + y) u v ∧ wc = w)
  case first =>
    by_cases hlt : a.length < b.length
    · go_wp2_with fail
      go_meet
      case rel => exact ⟨⟨A', A, c', c, b, a, rfl, rfl, by omega, by omega, r2, r1, G2.out, G1.out, by rw [V1.out, V2.out, Nat.add_comm]⟩, rfl⟩
    · go_wp2_with fail
      go_meet
      case rel => exact ⟨⟨A, A', c, c', a, b, rfl, rfl, by omega, by omega, r1, r2, G1.out, G2.out, by rw [V1.out, V2.out]⟩, rfl⟩
  case rest =>
    clear H1 H2 G1 G2 V1 V2 r1 r2 l1 l2
    obtain ⟨⟨A, A', c, c', a, b, rfl, rfl, hba, ha9, r1, r2, g1, g2, hv⟩, rfl⟩ := hcut
    have G1 := Lib.hid g1; have G2 := Lib.hid g2; have V := Lib.hid hv
    clear g1 g2 hv
    have hmk := fun (W : World) => Try.make_u32 (a.length + 1) (by omega) W
    rw [show ((a.length + 1 : Nat) : Int) = (a.length : Int) + 1 by omega] at hmk
    go_wp2_with fail
    clear hmk
    have hbl0 : Below wc.heap.size wc ((wc.alloc (.cells #[.int .u32 0] 70)).alloc (.cells (u32s (List.replicate (a.length + 1) 0)).toArray 70)) := ((Below.refl _ wc).alloc (Nat.le_refl _) _).alloc (by simp) _
    have hcb0 : Blk ((wc.alloc (.cells #[.int .u32 0] 70)).alloc (.cells (u32s (List.replicate (a.length + 1) 0)).toArray 70)) wc.heap.size 70 #[.int .u32 ((0 : Nat) : Int)] := (Blk.new wc 70 #[.int .u32 0]).alloc _
    have hzb0 : Blk ((wc.alloc (.cells #[.int .u32 0] 70)).alloc (.cells (u32s (List.replicate (a.length + 1) 0)).toArray 70)) (wc.heap.size + 1) 70 (u32s (List.replicate (a.length + 1) 0)).toArray := by
      have := Blk.new (wc.alloc (.cells #[.int .u32 0] 70)) 70 (u32s (List.replicate (a.length + 1) 0)).toArray
      simpa using this
    go_loopg [8, 9, 29] b.length (fun gn _ _ i wr => ∃ (k : Nat) (zs : List Nat) (cr : Nat), k ≤ b.length ∧ gn = b.length - k ∧ i = .int .i64 k ∧ AddSt zs cr k (a.length + 1) (val (a.take k) + val (b.take k)) ∧ Blk wr wc.heap.size 70 #[.int .u32 (cr : Int)] ∧ Blk wr (wc.heap.size + 1) 70 (u32s zs).toArray ∧ Below wc.heap.size wc wr)
    case atStart => exact ⟨0, _, 0, Nat.zero_le _, rfl, rfl, addSt0 _, hcb0, hzb0, hbl0⟩
    case round =>
      clear hcb0 hzb0 hbl0
      obtain ⟨k, zs, cr, hk, hgk, rfl, hst, hcb, hzb, hd⟩ := hrel
      have HG := Lib.hid hgk; clear hgk
      have hz := hd.size
      have hcr := hst.carry
      by_cases hlt : k < b.length
      · obtain ⟨b1, o1, rfl, q1, c1⟩ := nat_at (r1.below (hd.mono hB)) (k := k) (by omega)
        obtain ⟨b2, o2, rfl, q2, c2⟩ := nat_at (r2.below (hd.mono hB)) (k := k) hlt
        have hxa := dig_at G1.out k
        have hxb := dig_at G2.out k
        obtain ⟨s, hs⟩ : ∃ s, s = (a.getD k 0 + b.getD k 0 + cr) % 4294967296 := ⟨_, rfl⟩
        obtain ⟨o, ho⟩ : ∃ o, o = (a.getD k 0 + b.getD k 0 + cr) / 4294967296 := ⟨_, rfl⟩
        have hN := hst.step (by omega) hxa hxb
        rw [← hs, ← ho] at hN
        have HN := Lib.hid hN; clear hN
        have HS := Lib.hid hs; have HO := Lib.hid ho; clear hs ho
        have HTA := Lib.hid (val_take_succ (ds := a) (k := k) (by omega))
        have HTB := Lib.hid (val_take_succ (ds := b) (k := k) hlt)
        generalize a.getD k 0 = xa at *
        generalize b.getD k 0 = xb at *
        have i1 : (k : Int) < a.length := by omega
        have i2 : (k : Int) < b.length := by omega
        have HST := Lib.hid hst; clear hst
        go_wp2_with (go_at_call 75; refine (Add1_any xa xb cr wc.heap.size s o hxa hxb hcr HS.out HO.out _ hcb).mono ?_; rintro e w1 ⟨rfl, hcs⟩; refine Hid.out ?_)
        refine Lib.hid ?_
        have hcb1 := hcs.blk
        have hzb1 := hcs.other _ _ _ (by omega) hzb
        have hd1 := hcs.below _ _ hd (Nat.le_refl _)
        clear hcs hcb hzb hd c1 c2
        have hzl : k < zs.length := by rw [HST.out.len]; omega
        have c3 : w1.cell? ⟨wc.heap.size + 1, k, none⟩ = some (.int .u32 ((zs.getD k 0 : Nat) : Int)) := (hzb1.cell k).trans (u32s_at _ _ hzl)
        have f3 := hzb1.frozen k
        generalize zs.getD k 0 = zk at *
        have z1 := hzb1.lt
        have i3 : (k : Int) < (a.length : Int) + 1 := by omega
        go_wp2_with fail
        go_roundg (b.length - (k + 1))
        case rel =>
          refine ⟨k + 1, zs.set k s, o, by omega, rfl, by go_num, ?_, ?_, ?_, ?_⟩
          · rw [HTA.out, HTB.out]; exact HN.out
          · exact hcb1.far (by show _ ≠ wc.heap.size + 1; omega) _
          · rw [← u32s_set]; exact hzb1.set_ k _
          · exact hd1.setCell (by show _ ≤ wc.heap.size + 1; omega) _
        case measure => have := HG.out; omega
      · obtain rfl : k = b.length := by omega
        rw [List.take_length] at hst
        have HST0 := Lib.hid hst; clear hst
        go_wp2_with fail
        go_loopg [10] (a.length - b.length) (fun gn i wr => ∃ (k : Nat) (zs : List Nat) (cr : Nat), b.length ≤ k ∧ k ≤ a.length ∧ gn = a.length - k ∧ i = .int .i64 k ∧ AddSt zs cr k (a.length + 1) (val (a.take k) + val b) ∧ Blk wr wc.heap.size 70 #[.int .u32 (cr : Int)] ∧ Blk wr (wc.heap.size + 1) 70 (u32s zs).toArray ∧ Below wc.heap.size wc wr)
        case atStart => exact ⟨b.length, zs, cr, Nat.le_refl _, hba, rfl, rfl, HST0.out, hcb, hzb, hd⟩
        case round =>
          clear hcb hzb hd hz hcr HST0 HG
          obtain ⟨k, zs, cr, hbk, hk, hgk, rfl, hst, hcb, hzb, hd⟩ := hrel
          have HG := Lib.hid hgk; clear hgk
          have hz := hd.size
          have hcr := hst.carry
          by_cases hlt : k < a.length
          · obtain ⟨b1, o1, rfl, q1, c1⟩ := nat_at (r1.below (hd.mono hB)) (k := k) hlt
            have hxa := dig_at G1.out k
            obtain ⟨s, hs⟩ : ∃ s, s = (a.getD k 0 + 0 + cr) % 4294967296 := ⟨_, rfl⟩
            obtain ⟨o, ho⟩ : ∃ o, o = (a.getD k 0 + 0 + cr) / 4294967296 := ⟨_, rfl⟩
            have hN := hst.step (xb := 0) (by omega) hxa (by omega)
            rw [← hs, ← ho, Nat.mul_zero, Nat.add_zero] at hN
            have HN := Lib.hid hN; clear hN
            have HS := Lib.hid hs; have HO := Lib.hid ho; clear hs ho
            have HTA := Lib.hid (val_take_succ (ds := a) (k := k) (by omega))
            generalize a.getD k 0 = xa at *
            have i1 : (k : Int) < a.length := by omega
            have HST := Lib.hid hst; clear hst
            have HC := Lib.hid (fun (w : World) (h : Blk w wc.heap.size 70 #[.int .u32 (cr : Int)]) => Add1_any xa 0 cr wc.heap.size s o hxa (by omega) hcr HS.out HO.out w h)
            go_wp2_with (go_at_call 75; refine (HC.out _ hcb).mono ?_; rintro e w1 ⟨rfl, hcs⟩; refine Hid.out ?_)
            refine Lib.hid ?_
            have hcb1 := hcs.blk
            have hzb1 := hcs.other _ _ _ (by omega) hzb
            have hd1 := hcs.below _ _ hd (Nat.le_refl _)
            clear hcs hcb hzb hd c1
            have hzl : k < zs.length := by rw [HST.out.len]; omega
            have c3 : w1.cell? ⟨wc.heap.size + 1, k, none⟩ = some (.int .u32 ((zs.getD k 0 : Nat) : Int)) := (hzb1.cell k).trans (u32s_at _ _ hzl)
            have f3 := hzb1.frozen k
            generalize zs.getD k 0 = zk at *
            have z1 := hzb1.lt
            have i3 : (k : Int) < (a.length : Int) + 1 := by omega
            go_wp2_with fail
            go_roundg (a.length - (k + 1))
            case rel =>
              refine ⟨k + 1, zs.set k s, o, by omega, by omega, rfl, by go_num, ?_, ?_, ?_, ?_⟩
              · rw [HTA.out]; exact HN.out
              · exact hcb1.far (by show _ ≠ wc.heap.size + 1; omega) _
              · rw [← u32s_set]; exact hzb1.set_ k _
              · exact hd1.setCell (by show _ ≤ wc.heap.size + 1; omega) _
            case measure => have := HG.out; omega
          · obtain rfl : k = a.length := by omega
            rw [List.take_length] at hst
            have hzl : a.length < zs.length := by rw [hst.len]; omega
            have hzlen := hst.len
            obtain ⟨hdg, hval⟩ := hst.last (by omega)
            rw [V.out] at hval
            have c0 : wr.cell? ⟨wc.heap.size, 0, none⟩ = some (.int .u32 (cr : Int)) := (hcb.cell 0).trans rfl
            have c3 : wr.cell? ⟨wc.heap.size + 1, a.length, none⟩ = some (.int .u32 ((zs.getD a.length 0 : Nat) : Int)) := (hzb.cell a.length).trans (u32s_at _ _ hzl)
            have f3 := hzb.frozen a.length
            generalize zs.getD a.length 0 = zk at *
            have z0 := hcb.lt
            have z1 := hzb.lt
            have hzb2 : Blk (wr.setCell ⟨wc.heap.size + 1, a.length, none⟩ (.int .u32 (cr : Int))) (wc.heap.size + 1) 70 (u32s (zs.set a.length cr)).toArray := by rw [← u32s_set]; exact hzb.set_ _ _
            have hd2 : Below wc.heap.size wc (wr.setCell ⟨wc.heap.size + 1, a.length, none⟩ (.int .u32 (cr : Int))) := hd.setCell (by show _ ≤ wc.heap.size + 1; omega) _
            have hrd := hzb2.reads (zs.set a.length cr).length (Nat.le_refl _)
            rw [List.take_length] at hrd
            have htr := trim_any (some ⟨wc.heap.size + 1, 0, none⟩) (a.length + 1) _ (zs.set a.length cr) _ (by rw [List.length_set]; omega) (by rw [List.length_set]; omega) hrd hdg
            have hrd2 := (NatB.of_blk hzb2).dig hdg
            have hll := dig_len_le hdg
            rw [List.length_set, hzlen] at htr hll
            rw [hval] at htr hrd2 hll
            generalize hws : dig (x + y) = ws at *
            have HW := Lib.hid hws; clear hws
            have HTR := Lib.hid htr; have HRD := Lib.hid hrd2; have HLL := Lib.hid hll; have HD2 := Lib.hid hd2
            clear htr hrd2 hll hrd hzb2 hd2 hst hdg hval hzlen hcb hzb hd
            go_wp2_with fail
            refine (HTR.out).mono ?_
            rintro e w5 ⟨rfl, rfl⟩
            go_wp2_with fail
            go_ret
            exact ⟨_, _, by rw [HW.out]; rfl, by rw [HW.out]; exact HLL.out, by rw [HW.out]; exact HRD.out, HD2.out⟩
end Go.Proofs.Ytpbapoanjkekmaa
