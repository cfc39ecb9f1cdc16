/- Contract of division.divide. -/
import Derived.StillTailTactics
import Derived.WalkMore
import Derived.Deep.RegionHeld3
import Derived.Test.YtpbapoanjkekmaaVJ
namespace Go.Proofs.Ytpbapoanjkekmaa
open Go.RowKit

def DivideRes (x y : Nat) (w : World) (e : Ending) (w' : World) : Prop :=
  ∃ Aq cq Ar cr, e = .returned (.tuple #[.slice Aq (dig (x / y)).length cq, .slice Ar (dig (x % y)).length cr]) ∧ (dig (x / y)).length ≤ cq ∧ (dig (x % y)).length ≤ cr ∧ NatB w' Aq (dig (x / y)) ∧ NatB w' Ar (dig (x % y)) ∧ Below w.heap.size w w'
theorem dig_mono {y x : Nat} (h : y ≤ x) : (dig y).length ≤ (dig x).length := dig_len_lt (by
  have := val_lt (dig_dig x)
  rw [val_dig] at this
  omega)
theorem Wr.of_drawn {g : Nat} {w w' : World} (h : Drawn w w') : Wr g w w' := by obtain ⟨n, rfl⟩ := h; exact ⟨rfl, rfl, rfl, Nat.le_refl _, fun _ _ _ => rfl⟩
theorem Wr.cell_ {g : Nat} {w w' : World} (h : Wr g w w') {b o : Nat} {u : Value} (hb : b < w.heap.size) (hn : b ≠ g) (hc : w.cell? ⟨b, o, none⟩ = some u) : w'.cell? ⟨b, o, none⟩ = some u := by
  have := h.block b hb (fun e => hn (by injection e))
  rw [← hc]
  unfold World.cell?
  simp only [this]
theorem Blk.wr {g k : Nat} {w w' : World} {t : TypeId} {cs : Array Value} (h : Blk w k t cs) (hw : Wr g w w') (hn : k ≠ g) : Blk w' k t cs := (hw.block k h.lt (fun e => hn (by injection e))).trans h
theorem u32s_set_at (l : List Nat) (i x : Nat) (h : i < l.length) : (u32s (l.set i x)).toArray[i]? = some (.int .u32 (x : Int)) := by
  rw [u32s_at _ i (by rw [List.length_set]; exact h), List.getD_eq_getElem?_getD, List.getElem?_set_self h]
  rfl
theorem lt_of_rest {zv dv pv V : Nat} (he : zv + dv = pv) (h : pv - dv < V) : zv < V := by omega
theorem round_st {u q v zs : List Nat} {n i A d : Nat} (h : ∀ (d : Nat) (zs : List Nat), d < 4294967296 → Dig zs → zs.length = n + 1 → val zs + d * val v = val (partU u n i) → val zs < val v → DivI (u.take i ++ (zs ++ u.drop (i + n + 1))) (q.set i d) n i A (val v)) (hd : d < 4294967296) (hz : Dig zs) (hzl : zs.length = n + 1) (he : val zs + d * val v = val (partU u n i)) (hlt : val zs < val v) :
    DivI (u.take i ++ (zs ++ u.drop (i + (n + 1)))) (q.set i d) n i A (val v) := h d zs hd hz hzl he hlt
theorem cut_one {d V : Nat} (d' : Nat) (h : d = d' + 1) : d * V = d' * V + V := by rw [h, Nat.add_mul, Nat.one_mul]
theorem dig_mid {us zs : List Nat} {i n : Nat} (h1 : Dig us) (h2 : Dig zs) : Dig (us.take i ++ (zs ++ us.drop (i + n))) := fun d hd => by
  rcases List.mem_append.1 hd with hd | hd
  · exact h1 d (List.mem_of_mem_take hd)
  · rcases List.mem_append.1 hd with hd | hd
    · exact h2 d hd
    · exact h1 d (List.mem_of_mem_drop hd)
set_option maxHeartbeats 4000000 in
set_option maxRecDepth 100000 in
theorem divide_any (A A' : Option Addr) (c c' B : Nat) (a b : List Nat) (w : World) (hB : B ≤ w.heap.size) (hc : a.length ≤ c) (hc' : b.length ≤ c') (la : a.length ≤ 400000) (lb : b.length ≤ 400000)
    (r1 : Reads w B 1 A a.length (u32s a)) (r2 : Reads w B 1 A' b.length (u32s b)) (g1 : Dig a) (g2 : Dig b) (hy : val b ≠ 0) :
    Calls Try.prog 66 #[.slice A a.length c, .slice A' b.length c'] w (DivideRes (val a) (val b) w) := by
  have HNB := Lib.hid (Normal_any A' c' B b w hB hc' (by omega) r2 g2)
  have HNA := Lib.hid (fun (W : World) (hW : Below w.heap.size w W) => Normal_any A c B a W (Nat.le_trans hB hW.size) hc (by omega) (r1.below (hW.mono hB)) g1)
  have HSA := Lib.hid (fun (s : Nat) (hs : s ≤ 31) (W : World) (hW : Below w.heap.size w W) => Shl_any A c B s a W (Nat.le_trans hB hW.size) hc (by omega) hs (r1.below (hW.mono hB)) g1)
  have HDS := Lib.hid (fun (d : Nat) (h0 : 0 < d) (h1 : d < 4294967296) (W : World) (hW : Below w.heap.size w W) => DivSmall_any A c B a d W (Nat.le_trans hB hW.size) hc (by omega) h0 h1 (r1.below (hW.mono hB)) g1)
  have HCM := Lib.hid (fun (W : World) (hW : Below w.heap.size w W) (Ab : Option Addr) (cb : Nat) (hcb : (dig (val b)).length ≤ cb) (hn : NatB W Ab (dig (val b))) => Cmp_any A Ab c cb W.heap.size a (dig (val b)) W hc hcb (by omega) (by have := dig_len_le g2; omega) ((r1.below (hW.mono hB)).more (Nat.le_trans hB hW.size)) hn.reads g1 (dig_dig _))
  have HLA := Lib.hid (show (dig (val a)).length ≤ 400000 by have := dig_len_le g1; omega); have HLB := Lib.hid (show (dig (val b)).length ≤ 400000 by have := dig_len_le g2; omega)
  clear r1 r2 g1 g2 lb
  generalize val b = y at *
  generalize val a = x at *
  rw [val_dig] at HCM
  unfold NatRes at HNB HNA HSA
  unfold DivRes at HDS
  go_enter Try.func66, Try.ntmps66
  go_wp2_with fail
  go_step3
  go_wp2_with fail
  refine HNB.out.mono ?_
  rintro e w1 ⟨Ab, cb, rfl, hcb, hnb, hb1⟩
  have HC1 := Lib.hid (HCM.out w1 hb1 Ab cb hcb hnb)
  clear HNB HCM
  go_wp2_with fail
  refine HC1.out.mono ?_
  rintro e w2 ⟨rfl, hdr⟩
  have hb2 := hb1.trans ((hdr.below w1.heap.size).mono hb1.size)
  have hnb2 := hnb.old (hdr.below w1.heap.size)
  clear hb1 hnb hdr HC1
  by_cases hlt : x < y
  · have hcm : cmpN x y = -1 := by unfold cmpN; rw [if_pos hlt]
    rw [hcm]
    have HN1 := Lib.hid (HNA.out w2 hb2)
    have HQ := Lib.hid (Nat.div_eq_of_lt hlt); have HR := Lib.hid (Nat.mod_eq_of_lt hlt)
    clear hcm hlt
    go_wp2_with fail
    refine HN1.out.mono ?_
    rintro e w3 ⟨Ar, cr, rfl, hcr, hnr, hb3⟩
    have HB3 := Lib.hid (hb2.trans (hb3.mono hb2.size))
    clear hb3 hb2
    go_wp2_with fail
    rw [Exit.noGoto_ret]
    go_ret2
    refine ⟨none, 0, Ar, cr, ?_, ?_, ?_, ?_, ?_, HB3.out⟩
    · rw [HQ.out, HR.out, dig_zero]; rfl
    · rw [HQ.out, dig_zero]; exact Nat.le_refl _
    · rw [HR.out]; exact hcr
    · rw [HQ.out]; exact .inl dig_zero
    · rw [HR.out]; exact hnr
  · have hcm : ¬ (cmpN x y < 0) := by
      unfold cmpN
      rw [if_neg hlt]
      split <;> decide
    generalize cmpN x y = cxy at *
    by_cases hone : (dig y).length = 1
    · obtain ⟨y1, y2, y3⟩ := dig_lt_one hone
      obtain ⟨b1, o1, rfl, q1, c1⟩ := nat_at hnb2.reads (k := 0) (by omega)
      rw [y1, Nat.add_zero] at c1
      have HD1 := Lib.hid (HDS.out y y2 y3 w2 hb2)
      have HYM := Lib.hid (Nat.lt_trans (Nat.mod_lt x y2) y3)
      rw [hone] at *
      have hi0 : (0 : Int) < (1 : Int) := by decide
      have HOF := Lib.hid (fun W => Of_any (x % y) (by have := HYM.out; omega) W)
      obtain ⟨rm, hrm⟩ : ∃ rm, rm = x % y := ⟨_, rfl⟩
      rw [← hrm] at HD1 HYM HOF
      have HR := Lib.hid hrm
      clear hrm
      have hbb := hb2.size
      clear y1 hone hlt HNA HSA HDS hcb
      go_wp2_with fail
      refine HD1.out.mono ?_
      rintro e w3 ⟨Aq, cq, rfl, hcq, hnq, hb3⟩
      have HB3 := Lib.hid (hb2.trans (hb3.mono hb2.size))
      clear hb3
      have hwr := wraps_u64n (n := rm) (by have := HYM.out; omega)
      go_wp2_with fail
      refine (HOF.out w3).mono ?_
      rintro e w4 ⟨Ar, cr, rfl, hcr, hnr, hb4⟩
      go_wp2_with fail
      rw [Exit.noGoto_ret]
      go_ret2
      have hr := HR.out
      exact ⟨Aq, cq, Ar, cr, by rw [← hr]; rfl, hcq, by rw [← hr]; exact hcr, hnq.old hb4, by rw [← hr]; exact hnr, HB3.out.trans (hb4.mono HB3.out.size)⟩
    · obtain ⟨m, hm⟩ : ∃ m, (dig y).length = m + 2 := ⟨(dig y).length - 2, by
        have := @dig_len_pos y
        omega⟩
      have ht0 := top_pos hm
      have ht1 := dig_at (dig_dig y) (m + 1)
      have hyx : y ≤ x := by omega
      obtain ⟨s, hs, hz, hn1, hn2⟩ := lz_at ht0 ht1
      obtain ⟨hv1, hv2⟩ := norm_at hm hn1 hn2
      obtain ⟨hx1, hx2⟩ := long_at x s hs
      obtain ⟨b1, o1, rfl, q1, c1⟩ := nat_at hnb2.reads (k := m + 1) (by omega)
      obtain ⟨n, hn⟩ : ∃ n, n = m + 2 := ⟨_, rfl⟩
      obtain ⟨n1, hnn⟩ : ∃ n1, n1 = m + 1 := ⟨_, rfl⟩
      have hv2 : (dig (y * 2 ^ s)).length = n := by rw [hn]; exact hv2
      rw [← hn] at hm
      have HSV := Lib.hid (Shl_any (some ⟨b1, o1, none⟩) cb w2.heap.size s (dig y) w2 (Nat.le_refl _) hcb (by have := HLB.out; omega) hs hnb2.reads (dig_dig y))
      unfold NatRes at HSV
      rw [val_dig, hm, hv2] at HSV
      have HLZ := Lib.hid (fun W => lz32_any _ s W ht1 hz)
      have HSA2 := Lib.hid (HSA.out s hs)
      have HV1 := Lib.hid hv1; have HX1 := Lib.hid hx1; have HX2 := Lib.hid hx2
      have HV2 := Lib.hid hv2
      have HEQ := Lib.hid (shift_div x y s)
      have HER := Lib.hid (shift_mod x y s)
      have HLX := Lib.hid (show n ≤ (dig x).length by rw [← hm]; exact dig_mono hyx)
      have hnb : n ≤ 400000 := by have := HLB.out; omega
      have hsb : (s : Int) ≤ 31 := by omega
      have HS := Lib.hid hs
      rw [← hnn] at ht1 c1 HLZ
      generalize (dig y).getD n1 0 = t at *
      have hkk : (n : Int) - 1 = (n1 : Int) := by omega
      have i1 : (n1 : Int) < (n : Int) := by omega
      have hno : ((n : Int) == 1) = false := by
        have : ¬ (n : Int) = 1 := by omega
        simp [this]
      have HN := Lib.hid hn; have HNN := Lib.hid hnn
      have hbb := hb2.size
      rw [hm]
      clear hx1 hx2 hv1 hv2 hn1 hn2 hz ht0 hyx hlt HSA HDS hone hcb hs hnb2 hm HLB hn hnn ht1 hc' hB hc hy
      obtain ⟨V, hV⟩ : ∃ V, V = y * 2 ^ s := ⟨_, rfl⟩
      obtain ⟨X, hX⟩ : ∃ X, X = x * 2 ^ s := ⟨_, rfl⟩
      rw [← hV] at HSV HV1 HV2 HEQ HER
      rw [← hX] at HSA2 HX1 HX2 HEQ HER
      clear hV hX
      obtain ⟨l, hl⟩ : ∃ l, l = (dig x).length := ⟨_, rfl⟩
      rw [← hl] at HX1 HX2 HLX HLA HNA
      have hlb : l ≤ 400000 := HLA.out
      clear hl HLA
      go_wp2_with fail
      refine (HLZ.out _).mono ?_
      rintro e w3 ⟨rfl, rfl⟩
      clear HLZ c1 hkk i1
      go_wp2_with fail
      refine HSV.out.mono ?_
      rintro e wv ⟨Av, cv, rfl, hcv, hnv, hb3⟩
      have hB3 := hb2.trans (hb3.mono hbb)
      clear HSV hb3 hb2 hbb q1
      have HN1 := Lib.hid (HNA.out wv hB3)
      go_wp2_with fail
      refine HN1.out.mono ?_
      rintro e w4 ⟨An, cn, rfl, hcn, hna, hb4⟩
      have hB4 := hB3.trans (hb4.mono hB3.size)
      have hnv4 := hnv.old hb4
      clear HNA HN1 hB3 hb4 hnv hcn hna hcv
      have hmk : ∀ (W : World), (Instr.makeSlice 29 (.int .i64 ((l : Int) + 1)) (.int .i64 ((l : Int) + 1))).run Try.prog W = .ok (.slice (some ⟨W.heap.size, 0, none⟩) (l + 1) (l + 1)) (W.alloc (.cells (u32s (List.replicate (l + 1) 0)).toArray 70)) := fun (W : World) => Try.make_u32 (l + 1) (by omega) W
      obtain ⟨k, hk⟩ : ∃ k, k + n = l + 1 := ⟨l + 1 - n, by have := HLX.out; omega⟩
      have hki : (l : Int) + 1 - (n : Int) = (k : Int) := by omega
      have hmk2 : ∀ (W : World), (Instr.makeSlice 29 (.int .i64 (k : Int)) (.int .i64 (k : Int))).run Try.prog W = .ok (.slice (some ⟨W.heap.size, 0, none⟩) k k) (W.alloc (.cells (u32s (List.replicate k 0)).toArray 70)) := fun (W : World) => Try.make_u32 k (by omega) W
      have hkb : k ≤ 400001 := by omega
      have HB5 := Lib.hid (hB4.alloc hB4.size (.cells (u32s (List.replicate (l + 1) 0)).toArray 70))
      have HW5 := Lib.hid ((Below.refl w4.heap.size w4).alloc (Nat.le_refl _) (.cells (u32s (List.replicate (l + 1) 0)).toArray 70))
      have HU5 := Lib.hid (Blk.new w4 70 (u32s (List.replicate (l + 1) 0)).toArray)
      have HS5 := Lib.hid (HSA2.out _ HB5.out)
      have HKK := Lib.hid hk
      have HNV := Lib.hid hnv4
      have HBW := Lib.hid hB4
      clear hk hB4 hnv4 HB5 HSA2
      go_wp2_with fail
      refine HS5.out.mono ?_
      rintro e w6 ⟨As, cs, rfl, hcs, hns, hb6⟩
      have HW6 := Lib.hid (HW5.out.trans (hb6.mono HW5.out.size))
      have HU6 := Lib.hid (HU5.out.old hb6)
      clear HW5 HU5 HS5 hb6 hmk
      have hcl : (u32s (dig X)).length = Nat.min (dig X).length (l + 1) := by
        have := HX1.out
        exact (show (u32s (dig X)).length = (dig X).length by simp [u32s]).trans (Nat.min_eq_left this).symm
      have hsrc : 0 < (u32s (dig X)).length → ∃ ad, As = some ad ∧ ∀ j v, (u32s (dig X))[j]? = some v → w6.cell? (ad.add j) = some v := fun hp => by
        obtain ⟨b, o, e, _, hcl⟩ := hns.reads.2 (by simpa [u32s] using hp)
        refine ⟨⟨b, o, none⟩, e, fun j v hv => ?_⟩
        have h1 := hcl j v hv
        have e3 : (⟨b, o, none⟩ : Addr).add j = ⟨b, o + j, none⟩ := by simp [Addr.add]
        rw [e3]
        exact h1
      have hfit : 0 + (u32s (dig X)).length ≤ (u32s (List.replicate (l + 1) 0)).length := by
        have := HX1.out
        simp [u32s]
        omega
      have HCL := Lib.hid hcl; have HSRC := Lib.hid hsrc; have HFIT := Lib.hid hfit
      clear hcl hsrc hfit hcs
      go_wp2_with (first | (guard_target =~ wpList _ _ _ (Oper.mk (some 60) _ _ _ _ _ :: _) _ _; refine wpList_copy_splice (o := ⟨some 60, _, _, _, _, _⟩) rfl (.tmp 56) (.tmp 59) 29 29 rfl 70 Try.underlying29 Try.size_u32 _ _ (l + 1) (l + 1) (dig X).length cs rfl rfl w4.heap.size 0 _ 70 HU6.out (u32s (dig X)) HCL.out (fun hp => ⟨rfl, HSRC.out hp⟩) HFIT.out (u32s_one _) w4.heap.size w6 (Below.refl _ _) (Nat.le_refl _) ?_; intro w7 hg7 hb7))
      have HU7 := Lib.hid (show Blk w7 w4.heap.size 70 (u32s (dig X ++ List.replicate (l + 1 - (dig X).length) 0)).toArray by
        have := hg7.out
        rwa [pad_splice] at this)
      have HW7 := Lib.hid (HW6.out.trans hb7)
      clear HU6 HW6 hg7 hb7 HCL HSRC HFIT hns hmk2
      have HDI := Lib.hid (show DivI (dig X ++ List.replicate (l + 1 - (dig X).length) 0) (List.replicate k 0) n k X (val (dig V)) by
        have h1 := HX1.out; have h2 := HX2.out; have h3 := HV1.out; have h4 := HKK.out; have h5 := HN.out
        subst h5
        have := DivI.start (u := dig X ++ List.replicate (l + 1 - (dig X).length) 0) (n := m + 2) (t := k) (V := V) pad_dig (by rw [List.length_append, List.length_replicate]; omega) (by omega) (by rw [pad_val, show k + (m + 2) - 1 = l by omega]; exact h2) h3
        rwa [pad_val, ← val_dig V] at this)
      have HUL := Lib.hid (show (dig X ++ List.replicate (l + 1 - (dig X).length) 0).length = l + 1 by
        have h1 := HX1.out
        rw [List.length_append, List.length_replicate]; omega)
      generalize dig X ++ List.replicate (l + 1 - (dig X).length) 0 = us0 at *
      have HU8 := Lib.hid (HU7.out.alloc (.cells (u32s (List.replicate k 0)).toArray 70))
      have HQ8 := Lib.hid (Blk.new w7 70 (u32s (List.replicate k 0)).toArray)
      have HW8 := Lib.hid (HW7.out.alloc HW7.out.size (.cells (u32s (List.replicate k 0)).toArray 70))
      have HGQ := Lib.hid HU7.out.lt
      have HRV := Lib.hid (fun (W : World) (hW : Below w4.heap.size w4 W) => show Reads W w4.heap.size 1 Av n (u32s (dig V)) by
        have := HNV.out.reads.below hW
        rwa [HV2.out] at this)
      have HVD := Lib.hid (dig_dig V)
      have HVV := Lib.hid (show 1 ≤ (dig V).getD n1 0 by
        have h1 := HV2.out; have h2 := HN.out
        rw [HNN.out]
        exact top_pos (by omega))
      obtain ⟨bv, ov, hAv, q1, _⟩ := nat_at (ds := dig V) (by rw [HV2.out]; exact HRV.out w4 (Below.refl _ _)) (k := 0) (by rw [HV2.out, HN.out]; omega)
      have HVC := Lib.hid (fun (W : World) (hW : Below w4.heap.size w4 W) (j : Nat) (hj : j < n) => show W.cell? ⟨bv, ov + j, none⟩ = some (.int .u32 (((dig V).getD j 0 : Nat) : Int)) by
        obtain ⟨b2, o2, e, _, c2⟩ := nat_at (ds := dig V) (by rw [HV2.out]; exact HRV.out w4 (Below.refl _ _)) (k := j) (by rw [HV2.out]; exact hj)
        rw [hAv] at e
        injection e with e
        injection e with e1 e2
        subst e1
        subst e2
        exact (hW.cell (p := ⟨bv, ov + j, none⟩) q1).trans c2)
      subst hAv
      have HGW := Lib.hid HBW.out.size
      have HBV := Lib.hid q1
      clear HU7 HW7 HX1 HX2 HV1 HLX q1 HNV
      go_step3
      go_wp2_with fail
      generalize w7.heap.size = gq at *
      generalize w7.alloc (.cells (u32s (List.replicate k 0)).toArray 70) = w8 at *
      generalize w4.heap.size = gu at *
      go_loopg [13, 14] k (fun gn jv _ wr => ∃ (j : Nat) (us qs : List Nat), j ≤ k ∧ gn = j ∧ jv = .int .i64 ((j : Int) - 1) ∧ DivI us qs n j X (val (dig V)) ∧ us.length = l + 1 ∧ qs.length = k ∧ Blk wr gu 70 (u32s us).toArray ∧ Blk wr gq 70 (u32s qs).toArray ∧ Below gu w4 wr)
      case atStart => exact ⟨k, us0, _, Nat.le_refl _, rfl, by go_num, HDI.out, HUL.out, by simp, HU8.out, HQ8.out, HW8.out⟩
      case round =>
        clear HU8 HQ8 HW8 HUL HDI
        obtain ⟨j, us, qs, hj, hgj, rfl, hdi, hul, hql, hub, hqb, hbw⟩ := hrel
        have HG := Lib.hid hgj
        clear hgj
        cases j with
        | zero =>
          obtain ⟨hq, hr⟩ := hdi.done
          have hkk := HKK.out
          have HQ := Lib.hid hq; have HR := Lib.hid hr
          have r1 := hqb.reads k (by omega)
          have r2 := hub.reads (l + 1) (by omega)
          rw [List.take_of_length_le (by omega)] at r1
          rw [List.take_of_length_le (by omega)] at r2
          have HNQ := Lib.hid (Normal_any (some ⟨gq, 0, none⟩) k wr.heap.size qs wr (Nat.le_refl _) (by omega) (by omega) (by rw [hql]; exact r1) hdi.dq)
          have HSH := Lib.hid (fun (W : World) (hW : Below wr.heap.size wr W) => Shr_any (some ⟨gu, 0, none⟩) (l + 1) wr.heap.size s us W hW.size (by omega) (by omega) HS.out (by rw [hul]; exact r2.below hW) hdi.du)
          unfold NatRes at HNQ HSH
          rw [hql, hq, val_dig V, HEQ.out] at HNQ
          rw [hul, hr, val_dig V, HER.out] at HSH
          have HBX := Lib.hid (HBW.out.trans (hbw.mono HGW.out))
          clear hq hr r1 r2 hdi hql hul hub hqb hbw hkk
          go_wp2_with fail
          refine HNQ.out.mono ?_
          rintro e wn ⟨Aq, cq, rfl, hcq, hnq, hbq⟩
          have HSH2 := Lib.hid (HSH.out wn hbq)
          have HBQ := Lib.hid hbq
          clear hbq
          go_wp2_with fail
          refine HSH2.out.mono ?_
          rintro e wm ⟨Ar, cr, rfl, hcr, hnr, hbr⟩
          go_wp2_with fail
          rw [Exit.noGoto_ret]
          go_ret2
          exact ⟨Aq, cq, Ar, cr, rfl, hcq, hcr, hnq.old hbr, hnr, (HBX.out.trans (HBQ.out.mono HBX.out.size)).trans (hbr.mono (Nat.le_trans HBX.out.size HBQ.out.size))⟩
        | succ i =>
          have hnm := HN.out; have hn1m := HNN.out
          obtain ⟨p1, p2, p3, p4, p5⟩ := hdi.part HVD.out HV2.out (by omega)
          have htop : us.getD (i + n) 0 ≤ (dig V).getD n1 0 := by
            have := guess_top (m := m) HVD.out (by rw [p1, hnm]) (by rw [HV2.out, hnm]) p5
            rw [← hnm, ← hn1m, partU_at (by omega)] at this
            exact this
          have hest := guess_est (u := gU (partU us n i) m) (w := gV (dig V) m) (by
            have := HVV.out
            rw [hn1m] at this
            unfold gV; omega)
          have hnear := guess_near (m := m) p2 HVD.out (by rw [p1, hnm]) (by rw [HV2.out, hnm]) p5 (by have := HVV.out; rwa [hn1m] at this) hest
          have hgd : min 4294967295 (gU (partU us n i) m / gV (dig V) m) = guess (us.getD (i + n) 0) (us.getD (i + n1) 0) (us.getD (i + m) 0) ((dig V).getD n1 0) ((dig V).getD m 0) := by
            unfold guess gU gV
            rw [partU_at (by omega), partU_at (by omega), partU_at (by omega), ← hnm, ← hn1m]
          rw [hgd] at hnear
          have HST := Lib.hid (fun (d : Nat) (zs : List Nat) (hd : d < 4294967296) (hz : Dig zs) (hzl : zs.length = n + 1) he hlt => hdi.step (zs := zs) (d := d) HVD.out HV2.out (by omega) hd hz hzl he hlt)
          have hu2 := at_lt hdi.du (i + n); have hu1 := at_lt hdi.du (i + n1); have hu0 := at_lt hdi.du (i + m)
          have hv1 := at_lt HVD.out n1; have hv0 := at_lt HVD.out m
          have HUD := Lib.hid hdi.du
          have hkk := HKK.out
          have c2 : wr.cell? ⟨gu, i + n, none⟩ = some (.int .u32 ((us.getD (i + n) 0 : Nat) : Int)) := (hub.cell _).trans (u32s_at _ _ (by omega))
          have c1 : wr.cell? ⟨gu, i + n1, none⟩ = some (.int .u32 ((us.getD (i + n1) 0 : Nat) : Int)) := (hub.cell _).trans (u32s_at _ _ (by omega))
          have c0 : wr.cell? ⟨gu, i + m, none⟩ = some (.int .u32 ((us.getD (i + m) 0 : Nat) : Int)) := (hub.cell _).trans (u32s_at _ _ (by omega))
          have d1 := HVC.out wr hbw n1 (by omega)
          have d0 := HVC.out wr hbw m (by omega)
          have cq : wr.cell? ⟨gq, i, none⟩ = some (.int .u32 ((qs.getD i 0 : Nat) : Int)) := (hqb.cell _).trans (u32s_at _ _ (by omega))
          have HES := Lib.hid (fun W => estimate_fix _ _ _ _ _ W hu1 hu0 hv1 hv0 htop (by have := HVV.out; omega))
          have hdl := guess_lt (us.getD (i + n) 0) (us.getD (i + n1) 0) (us.getD (i + m) 0) ((dig V).getD n1 0) ((dig V).getD m 0)
          generalize guess (us.getD (i + n) 0) (us.getD (i + n1) 0) (us.getD (i + m) 0) ((dig V).getD n1 0) ((dig V).getD m 0) = d at *
          generalize us.getD (i + n) 0 = u2 at *
          generalize us.getD (i + n1) 0 = u1 at *
          generalize us.getD (i + m) 0 = u0 at *
          generalize (dig V).getD n1 0 = v1 at *
          generalize (dig V).getD m 0 = v0 at *
          generalize qs.getD i 0 = q0 at *
          have HNE := Lib.hid hnear
          have HPL := Lib.hid p1
          have hgq : gu < gq := HGQ.out
          have hbv : bv < gu := HBV.out
          have lu := hub.lt; have lq := hqb.lt
          have hWd : Wr gq wr wr.drew := Wr.of_drawn (Drawn.drew _)
          have KF := Lib.hid (fun (W : World) (hW : Wr gq wr W) => show Wr gq wr W ∧ W.cell? ⟨gu, i + n, none⟩ = some (.int .u32 (u2 : Int)) ∧ W.cell? ⟨gu, i + n1, none⟩ = some (.int .u32 (u1 : Int)) ∧ W.cell? ⟨gu, i + m, none⟩ = some (.int .u32 (u0 : Int)) ∧ W.cell? ⟨bv, ov + n1, none⟩ = some (.int .u32 (v1 : Int)) ∧ W.cell? ⟨bv, ov + m, none⟩ = some (.int .u32 (v0 : Int)) from
            ⟨hW, hW.cell_ lu (by omega) c2, hW.cell_ lu (by omega) c1, hW.cell_ lu (by omega) c0, hW.cell_ (by omega) (by omega) d1, hW.cell_ (by omega) (by omega) d0⟩)
          have KQ := Lib.hid (fun (W : World) (hW : Drawn wr.drew W) => show Wr gq wr W ∧ Blk W gq 70 (u32s qs).toArray ∧ W.cell? ⟨gq, i, none⟩ = some (.int .u32 (q0 : Int)) ∧ W.frozen? ⟨gq, i, none⟩ = false ∧ gq < W.heap.size from by
            have h1 : Blk W gq 70 (u32s qs).toArray := Blk.drawn (w := wr.drew) hqb hW
            exact ⟨hWd.trans (Wr.of_drawn hW), h1, (h1.cell _).trans ((hqb.cell _).symm.trans cq), h1.frozen _, h1.lt⟩)
          have i1 : ((i + 1 : Nat) : Int) - 1 = (i : Int) := by omega
          have i0 : (0 : Int) ≤ (i : Int) := by omega
          have i2 : (i : Int) + (n : Int) + 1 ≤ (l : Int) + 1 := by omega
          have i3 : (i : Int) < (k : Int) := by omega
          have HI := Lib.hid (show i < k by omega)
          obtain ⟨N, hN⟩ : ∃ N, N = n + 1 := ⟨_, rfl⟩
          have e1 : (n : Int) - 1 = (n1 : Int) := by omega
          have e2 : (n : Int) - 2 = (m : Int) := by omega
          have j1 : (n : Int) < (N : Int) := by omega
          have j2 : (n1 : Int) < (N : Int) := by omega
          have j3 : (m : Int) < (N : Int) := by omega
          have j4 : (n1 : Int) < (n : Int) := by omega
          have j5 : (m : Int) < (n : Int) := by omega
          have b3 : -9223372036854775808 ≤ (n : Int) - 1 ∧ (n : Int) - 1 ≤ 9223372036854775807 := by omega
          have b4 : -9223372036854775808 ≤ (n : Int) - 2 ∧ (n : Int) - 2 ≤ 9223372036854775807 := by omega
          have b5 : -9223372036854775808 ≤ (n1 : Int) ∧ (n1 : Int) ≤ 9223372036854775807 := by omega
          have b6 : -9223372036854775808 ≤ (m : Int) ∧ (m : Int) ≤ 9223372036854775807 := by omega
          have HE := Lib.hid (And.intro b3 (And.intro b4 (And.intro b5 b6)))
          clear b3 b4 b5 b6
          have HUB := Lib.hid hub; have HBW2 := Lib.hid hbw
          have HJJ := Lib.hid hj; have HUL2 := Lib.hid hul; have HQL := Lib.hid hql
          clear hest hgd hnear htop p1 p2 p3 p4 p5 hdi hu2 hu1 hu0 hv1 hv0 c2 c1 c0 d1 d0 cq hnm hn1m hkk hub hqb hbw lu hj hul hql hgq hbv
          have HLQ := Lib.hid lq
          clear lq
          rw [i1]
          clear i1
          go_wp2_with fail
          rw [show i + n + 1 - i = N by omega]
          have HNU := Lib.hid hN
          clear hN
          obtain ⟨b3, b4, b5, b6⟩ := HE.out
          have e3 : IntKind.i64.wrap ((n : Int) - 1) = (n : Int) - 1 := IntWalk.i64_in _ b3
          have e4 : IntKind.i64.wrap ((n : Int) - 2) = (n : Int) - 2 := IntWalk.i64_in _ b4
          have e5 : wrap64 (n1 : Int) = (n1 : Int) := IntWalk.wrap64_in _ b5
          have e6 : wrap64 (m : Int) = (m : Int) := IntWalk.wrap64_in _ b6
          have e7 : IntKind.i64.wrap (n1 : Int) = (n1 : Int) := IntWalk.i64_in _ b5
          have e8 : IntKind.i64.wrap (m : Int) = (m : Int) := IntWalk.i64_in _ b6
          clear b3 b4 b5 b6 HE
          have HALL := Lib.hid (And.intro HNE (And.intro HPL (And.intro HST (And.intro HUD (And.intro HUB (And.intro HBW2 (And.intro HJJ (And.intro HUL2 (And.intro HQL (And.intro HNU (And.intro HVD (And.intro HV2 (And.intro HRV (And.intro HGQ (And.intro HI (And.intro HN (And.intro HNN (And.intro HG (And.intro HKK (And.intro HBV HLQ))))))))))))))))))))
          clear HLQ HNE HPL HST HUD HUB HBW2 HJJ HUL2 HQL HNU HVC HRV HER HEQ HV2 HN HNN HKK HBW HGW HBV HGQ HVD HG HS HVV HI
          go_region_held3 (fun w' => Wr gq wr w' ∧ w'.cell? ⟨gu, i + n, none⟩ = some (.int .u32 (u2 : Int)) ∧ w'.cell? ⟨gu, i + n1, none⟩ = some (.int .u32 (u1 : Int)) ∧ w'.cell? ⟨gu, i + m, none⟩ = some (.int .u32 (u0 : Int)) ∧ w'.cell? ⟨bv, ov + n1, none⟩ = some (.int .u32 (v1 : Int)) ∧ w'.cell? ⟨bv, ov + m, none⟩ = some (.int .u32 (v0 : Int)))
            ((refine KF.out _ ?_; first | (with_reducible exact hWd) | (with_reducible exact hb1) | (with_reducible exact hb2)))
            ((go_at_call 84; refine (HES.out _).mono ?_; rintro e w9 ⟨rfl, hdr⟩; obtain ⟨hb1, hq9, cq9, fq9, zq9⟩ := KQ.out _ hdr; have hb2 := hb1.trans (Wr.set_ (g := gq) w9 i (.int .u32 (d : Int)))))
          obtain ⟨HNE, HPL, HST, HUD, HUB, HBW2, HJJ, HUL2, HQL, HNU, HVD, HV2, HRV, HGQ, HI, HN, HNN, HG, HKK, HBV, HLQ⟩ := HALL.out
          have hq10 : Blk (w9.setCell ⟨gq, i, none⟩ (.int .u32 (d : Int))) gq 70 (u32s (qs.set i d)).toArray := by
            rw [← u32s_set]; exact hq9.set_ i _
          have hu10 : Blk (w9.setCell ⟨gq, i, none⟩ (.int .u32 (d : Int))) gu 70 (u32s us).toArray := HUB.out.wr hb2 (by have := HGQ.out; omega)
          have hw10 : Below gu w4 (w9.setCell ⟨gq, i, none⟩ (.int .u32 (d : Int))) := HBW2.out.trans ((hb2.below HLQ.out).mono (by have := HGQ.out; omega))
          rename_i hH
          clear hH hb1 hb2 hq9 cq9 fq9 zq9 hdr KF KQ hWd HES HALL e3 e4 e5 e6 e7 e8 HUB HBW2
          generalize w9.setCell ⟨gq, i, none⟩ (.int .u32 (d : Int)) = wa at *
          have cq : wa.cell? ⟨gq, i, none⟩ = some (.int .u32 (d : Int)) := (hq10.cell i).trans (u32s_set_at qs i d (by rw [HQL.out]; exact HI.out))
          have hjn : i + n + 1 ≤ us.length := by have := HUL2.out; have := HKK.out; have := HI.out; omega
          have hl9 : us.length ≤ 900000 := by have := HUL2.out; omega
          have HSM := Lib.hid (subMul_any (some ⟨bv, ov, none⟩) cv (l + 1 - i) gu gu i n d us (dig V) wa (Nat.le_refl _) hu10 hl9 hjn HUD.out (HRV.out wa hw10) HV2.out HVD.out hdl)
          have HJN := Lib.hid hjn; have HL9 := Lib.hid hl9; have HW10 := Lib.hid hw10; have HQ10 := Lib.hid hq10
          unfold SubMRes at HSM
          rw [← HNU.out] at HSM
          have fq := hq10.frozen i
          have zq := hq10.lt
          clear hjn hl9 hw10 hq10 hu10
          rcases HNE.out with ⟨hn1, hn2⟩ | ⟨hn1, hn2, hn3, hn4⟩
          · have HA := Lib.hid hn1; have HB2 := Lib.hid hn2
            clear hn1 hn2
            go_wp2_with fail
            refine HSM.out.mono ?_
            rintro e wb ⟨zs, b, hb, rfl, hzl, hzd, hsum, hub, hwr⟩
            have hzk : val zs < 4294967296 ^ N := by rw [← hzl]; exact val_lt hzd
            obtain ⟨hb0, he⟩ := round_a hzk hb hsum HA.out
            have hbf : (b != 0) = false := by rw [hb0]; rfl
            have hzV : val zs < val (dig V) := lt_of_rest he HB2.out
            rw [hbf]
            have HNX := Lib.hid (round_st HST.out hdl hzd (hzl.trans HNU.out) he hzV)
            rw [HNU.out] at hub
            have HU2 := Lib.hid hub
            have HQ2 := Lib.hid (HQ10.out.wr hwr (by have := HGQ.out; omega))
            have HW2 := Lib.hid (HW10.out.trans (hwr.below (Nat.lt_trans HGQ.out zq)))
            have HML := Lib.hid (mid_len (us := us) (zs := zs) (j := i) (hzl.trans HNU.out) HJN.out)
            clear hzk hb0 he hbf hzV hub hwr hsum hb hzl hzd
            go_wp2_with fail
            go_roundg i
            case rel => exact ⟨i, _, qs.set i d, Nat.le_of_lt HI.out, rfl, rfl, HNX.out, HML.out.trans HUL2.out, by rw [List.length_set]; exact HQL.out, HU2.out, HQ2.out, HW2.out⟩
            case measure => have := HG.out; omega
          · obtain ⟨d', hd'⟩ : ∃ d', d = d' + 1 := ⟨d - 1, by omega⟩
            rw [show d - 1 = d' by omega] at hn3 hn4
            have HA := Lib.hid hn1; have HB2 := Lib.hid hn3; have HB3 := Lib.hid hn4
            have hz1 : (d : Int) - 1 = (d' : Int) := by omega
            have hdl' : d' < 4294967296 := by omega
            have HD := Lib.hid hd'
            clear hn1 hn2 hn3 hn4 hd'
            go_wp2_with fail
            refine HSM.out.mono ?_
            rintro e wb ⟨zs, b, hb, rfl, hzl, hzd, hsum, hub, hwr⟩
            have hb1 := round_b hb hsum HA.out
            have hbf : (b != 0) = true := by rw [hb1]; rfl
            rw [hbf]
            rw [hb1, Nat.mul_one, cut_one d' HD.out] at hsum
            have HSUM := Lib.hid hsum
            have hq2 := HQ10.out.wr hwr (Nat.ne_of_gt HGQ.out)
            have cqb : wb.cell? ⟨gq, i, none⟩ = some (.int .u32 (d : Int)) := (hq2.cell i).trans (u32s_set_at qs i d (by rw [HQL.out]; exact HI.out))
            have fqb := hq2.frozen i
            have zqb := hq2.lt
            have HQ2 : Hid (Blk (wb.setCell ⟨gq, i, none⟩ (.int .u32 (d' : Int))) gq 70 (u32s (qs.set i d')).toArray) := Lib.hid (by
              have := hq2.set_ i (.int .u32 (d' : Int))
              rwa [u32s_set, List.set_set] at this)
            have hws := Wr.set_ (g := gq) wb i (.int .u32 (d' : Int))
            rw [HNU.out] at hub
            have hub2 : Blk (wb.setCell ⟨gq, i, none⟩ (.int .u32 (d' : Int))) gu 70 (u32s (us.take i ++ (zs ++ us.drop (i + (n + 1))))).toArray := hub.wr hws (Nat.ne_of_lt HGQ.out)
            have hw2 : Below gu w4 (wb.setCell ⟨gq, i, none⟩ (.int .u32 (d' : Int))) := (HW10.out.trans (hwr.below (Nat.lt_trans HGQ.out zq))).trans ((hws.below zqb).mono (Nat.le_of_lt HGQ.out))
            have hzl' := hzl.trans HNU.out
            have hml := mid_len (us := us) (zs := zs) (j := i) hzl' HJN.out
            have HAB := Lib.hid (addBack_any (some ⟨bv, ov, none⟩) cv (l + 1 - i) gu gu i n _ (dig V) _ (Nat.le_refl _) hub2 (by rw [hml]; exact HL9.out) (by rw [hml]; exact HJN.out) (dig_mid HUD.out hzd) (HRV.out _ hw2) HV2.out HVD.out)
            have HZL := Lib.hid hzl'; have HML := Lib.hid hml; have HW2 := Lib.hid hw2
            unfold AddBRes at HAB
            rw [part_mid hzl' (Nat.le_trans (Nat.le_of_lt (Nat.lt_of_lt_of_le (Nat.lt_succ_of_le (Nat.le_add_right i n)) HJN.out)) (Nat.le_refl _)), ← HNU.out] at HAB
            clear hb1 hbf hq2 hws hub hub2 hw2 hzl' hml hwr hsum hb hzl hzd cq fq zq
            go_wp2_with fail
            refine HAB.out.mono ?_
            rintro e wd ⟨zt, b2, hb2, ⟨u, rfl⟩, htl, htd, hsum2, hub3, hwr3⟩
            have hzk : val zt < 4294967296 ^ N := by rw [← htl]; exact val_lt htd
            obtain ⟨he, hzV⟩ := round_c hb2 hzk HSUM.out hsum2 HB2.out HB3.out
            have HNX := Lib.hid (round_st HST.out hdl' htd (htl.trans HNU.out) he hzV)
            rw [HNU.out, mid_mid HZL.out (Nat.le_of_lt (Nat.lt_of_lt_of_le (Nat.lt_succ_of_le (Nat.le_add_right i n)) HJN.out))] at hub3
            have HU3 := Lib.hid hub3
            have HQ3 := Lib.hid (HQ2.out.wr hwr3 (Nat.ne_of_gt HGQ.out))
            have HW3 := Lib.hid (HW2.out.trans (hwr3.below (Nat.lt_trans HGQ.out HQ2.out.lt)))
            have HMT := Lib.hid (mid_len (us := us) (zs := zt) (j := i) (htl.trans HNU.out) HJN.out)
            clear hzk he hzV hub3 hwr3 hsum2 hb2 htl htd
            go_wp2_with fail
            go_roundg i
            case rel => exact ⟨i, _, qs.set i d', Nat.le_of_lt HI.out, rfl, rfl, HNX.out, HMT.out.trans HUL2.out, by rw [List.length_set]; exact HQL.out, HU3.out, HQ3.out, HW3.out⟩
            case measure => have := HG.out; omega
end Go.Proofs.Ytpbapoanjkekmaa
