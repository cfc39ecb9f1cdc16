/- Contract of recpoly.Eval at polynomials whose coefficients are constants. -/
import Derived.IntWalk
import Derived.RegionTactic
import Derived.Deep.RegionHeld3
import Derived.Test.YtkkliemgidhgmaaGreatDoorEQ
import Derived.Test.YtkkliemgidhgmaaGreatDoorRD
namespace Go.Proofs.YtkkliemgidhgmaaGreatDoor
open Go.RowKit

/-- numbers of fewer than 48 digits -/
def Sm (q : Rat) : Prop := (dig q.num.natAbs).length < 48 ∧ (dig q.den).length < 48
/-- a rational number in lowest terms, in cells that the call may read -/
structure QIn (w : World) (B : Nat) (q : Rat) (A : Option Addr) (c : Nat) (D : Option Addr) (cd : Nat) : Prop where
  nm : NatIn w B A c (dig q.num.natAbs)
  dn : NatIn w B D cd (dig q.den)
theorem QIn.below {w w' : World} {B : Nat} {q : Rat} {A D : Option Addr} {c cd : Nat} (h : QIn w B q A c D cd) (hb : Below B w w') : QIn w' B q A c D cd := ⟨h.nm.below hb, h.dn.below hb⟩
theorem QIn.more {w : World} {B B' : Nat} {q : Rat} {A D : Option Addr} {c cd : Nat} (h : QIn w B q A c D cd) (hB : B ≤ B') : QIn w B' q A c D cd := ⟨h.nm.more hB, h.dn.more hB⟩
theorem QIn.made {w : World} {q : Rat} {A D : Option Addr} {c cd : Nat} (h1 : (dig q.num.natAbs).length ≤ c) (h2 : (dig q.den).length ≤ cd) (n1 : NatB w A (dig q.num.natAbs)) (n2 : NatB w D (dig q.den)) : QIn w w.heap.size q A c D cd := ⟨natB_nin n1 h1, natB_nin n2 h2⟩
abbrev qval (q : Rat) (A : Option Addr) (c : Nat) (D : Option Addr) (cd : Nat) : Value := .agg #[.bool (decide (q.num < 0)), .slice A (dig q.num.natAbs).length c, .slice D (dig q.den).length cd]
theorem q_self (q : Rat) : mkRat (ival (decide (q.num < 0)) (dig q.num.natAbs)) (val (dig q.den)) = q := by rw [ival_dig, val_dig, Rat.mkRat_self]
theorem RMul_q (q r : Rat) (A : Option Addr) (c : Nat) (D : Option Addr) (cd : Nat) (A' : Option Addr) (c' : Nat) (D' : Option Addr) (cd' : Nat) (B : Nat) (w : World) (hB : B ≤ w.heap.size) (h : QIn w B q A c D cd) (h' : QIn w B r A' c' D' cd') (s : Sm q) (s' : Sm r) :
    Calls Tryz.prog 56 #[qval q A c D cd, qval r A' c' D' cd'] w (RatRes (q * r) w) := by
  have := RMul_any (decide (q.num < 0)) (decide (r.num < 0)) A c _ D cd _ A' c' _ D' cd' _ B w hB h.nm h.dn h'.nm h'.dn s.1 s.2 s'.1 s'.2
  rw [q_self, q_self] at this
  exact this
theorem RAdd_q (q r : Rat) (A : Option Addr) (c : Nat) (D : Option Addr) (cd : Nat) (A' : Option Addr) (c' : Nat) (D' : Option Addr) (cd' : Nat) (B : Nat) (w : World) (hB : B ≤ w.heap.size) (h : QIn w B q A c D cd) (h' : QIn w B r A' c' D' cd') (s : Sm q) (s' : Sm r) :
    Calls Tryz.prog 55 #[qval q A c D cd, qval r A' c' D' cd'] w (RatRes (q + r) w) := by
  have := RAdd_any (decide (q.num < 0)) (decide (r.num < 0)) A c _ D cd _ A' c' _ D' cd' _ B w hB h.nm h.dn h'.nm h'.dn s.1 s.2 s'.1 s'.2
  rw [q_self, q_self] at this
  exact this
set_option maxHeartbeats 1000000 in
set_option maxRecDepth 100000 in
/-- a constant -/
theorem Eval_const (t : RP) (h0 : t.lv ≤ 0) (A : Option Addr) (c : Nat) (K : Option Addr) (kc : Nat) (X : Option Addr) (n xc B : Nat) (w : World) (hB : B ≤ w.heap.size) (h : NatIn w B A c t.ds) (hm : t.ds.length ≤ 1000000) :
    Calls Tryz.prog 34 #[rval t A c K kc, .slice X n xc] w (RatRes ((ival t.ng t.ds : Int) : Rat) w) := by
  obtain ⟨hb0, k0, k1, hs⟩ := boxes2 w 32 53 #[.int .i64 t.lv, .bool t.ng, .slice A t.ds.length c, .slice K t.ks.length kc] #[.bool false, .slice none 0 0, .slice none 0 0]
  have HF := Lib.hid (RFrom_any t.ng A c B t.ds _ (Nat.le_trans hB hb0.size) (h.below (hb0.mono hB)) hm)
  have HFIN := Lib.hid (fun (w2 : World) (A D : Option Addr) (c cd : Nat) (hk : Blk w2 (w.heap.size + 1) 53 #[.bool false, .slice none 0 0, .slice none 0 0]) l1 l2 n1 n2 hb => RatFin (q := ((ival t.ng t.ds : Int) : Rat)) (w := w) (w2 := w2) (g := w.heap.size + 1) (A := A) (D := D) (c := c) (cd := cd) hk (Nat.le_succ _) l1 l2 n1 n2 hb)
  have HB0 := Lib.hid hb0; have HK1 := Lib.hid k1
  unfold RatRes at HF
  generalize RatRes ((ival t.ng t.ds : Int) : Rat) w = Post at *
  generalize ((ival t.ng t.ds : Int) : Rat) = q at *
  unfold rval
  clear hb0 k0 k1 hs h hm hB
  generalize t.ds.length = dl at *
  generalize t.ks.length = kl at *
  generalize t.lv = lv at *
  generalize t.ng = tg at *
  go_enter Tryz.func34, Tryz.ntmps34
  go_wp2_with fail
  refine HF.out.mono ?_
  rintro e w2 ⟨A2, c2, D2, e2, rfl, l2, l3, n2, n3, hb2⟩
  have hk := HK1.out.old hb2
  have d0 := hk.cell 0; have d1 := hk.cell 1; have d2 := hk.cell 2
  have f0 := hk.frozen 0; have f1 := hk.frozen 1; have f2 := hk.frozen 2
  have z0 := hk.lt
  have HR := Lib.hid (HFIN.out w2 A2 D2 c2 e2 hk l2 l3 n2 n3 (HB0.out.trans (hb2.mono HB0.out.size)))
  clear hk hb2 l2 l3 n2 n3 HFIN
  go_wp2_with fail
  exact ret_blk Tryz.results34 rfl rfl HR.out.1 Tryz.underlying53 rfl Tryz.sizeRat HR.out.2
/-- Horner's scheme over constants -/
def hor (a : Rat) : List RP → Rat
  | [] => 0
  | u :: us => hor a us * a + ((ival u.ng u.ds : Int) : Rat)
theorem hor_drop (a : Rat) {ks : List RP} {j : Nat} {u : RP} (h : ks[j]? = some u) : hor a (ks.drop j) = hor a (ks.drop (j + 1)) * a + ((ival u.ng u.ds : Int) : Rat) := by
  obtain ⟨hj, rfl⟩ := List.getElem?_eq_some_iff.1 h
  rw [List.drop_eq_getElem_cons hj]
  rfl
def qcells (q : Rat) (A : Option Addr) (c : Nat) (D : Option Addr) (cd : Nat) : Array Value := #[.bool (decide (q.num < 0)), .slice A (dig q.num.natAbs).length c, .slice D (dig q.den).length cd]
/-- between two rounds -/
structure EvI (w W : World) (g : Nat) (rc : Array Value) (q : Rat) (A : Option Addr) (c : Nat) (D : Option Addr) (cd : Nat) : Prop where
  bel : Below w.heap.size w W
  box : Blk W w.heap.size 32 rc
  res : Blk W (w.heap.size + 1) 53 #[.bool false, .slice none 0 0, .slice none 0 0]
  gt : w.heap.size + 1 < g
  sum : Blk W g 53 (qcells q A c D cd)
  l1 : (dig q.num.natAbs).length ≤ c
  l2 : (dig q.den).length ≤ cd
  n1 : NatB W A (dig q.num.natAbs)
  n2 : NatB W D (dig q.den)
theorem EvI.put {w W W' : World} {g : Nat} {rc : Array Value} {q r : Rat} {A D A' D' : Option Addr} {c cd c' cd' : Nat} (h : EvI w W g rc q A c D cd) (hb : Below W.heap.size W W') (l1 : (dig r.num.natAbs).length ≤ c') (l2 : (dig r.den).length ≤ cd') (n1 : NatB W' A' (dig r.num.natAbs)) (n2 : NatB W' D' (dig r.den)) :
    EvI w (((W'.setCell ⟨g, 0, none⟩ (.bool (decide (r.num < 0)))).setCell ⟨g, 1, none⟩ (.slice A' (dig r.num.natAbs).length c')).setCell ⟨g, 2, none⟩ (.slice D' (dig r.den).length cd')) g rc r A' c' D' cd' := by
  have hs := h.sum.old hb
  have hg := h.gt
  refine ⟨(((h.bel.trans (hb.mono h.bel.size)).setCell (p := ⟨g, 0, none⟩) (by show w.heap.size ≤ g; omega) _).setCell (p := ⟨g, 1, none⟩) (by show w.heap.size ≤ g; omega) _).setCell (p := ⟨g, 2, none⟩) (by show w.heap.size ≤ g; omega) _,
    (((h.box.old hb).far (p := ⟨g, 0, none⟩) (by show w.heap.size ≠ g; omega) _).far (p := ⟨g, 1, none⟩) (by show w.heap.size ≠ g; omega) _).far (p := ⟨g, 2, none⟩) (by show w.heap.size ≠ g; omega) _,
    (((h.res.old hb).far (p := ⟨g, 0, none⟩) (by show w.heap.size + 1 ≠ g; omega) _).far (p := ⟨g, 1, none⟩) (by show w.heap.size + 1 ≠ g; omega) _).far (p := ⟨g, 2, none⟩) (by show w.heap.size + 1 ≠ g; omega) _,
    hg, ((hs.set_ 0 _).set_ 1 _).set_ 2 _, l1, l2, NatB.keepTwo hs (by decide) _ _ _ n1, NatB.keepTwo hs (by decide) _ _ _ n2⟩
theorem EvI.start {w W : World} {rc : Array Value} {q : Rat} {A D : Option Addr} {c cd : Nat} (hb : Below w.heap.size w W) (hbx : Blk W w.heap.size 32 rc) (hr : Blk W (w.heap.size + 1) 53 #[.bool false, .slice none 0 0, .slice none 0 0])
    (l1 : (dig q.num.natAbs).length ≤ c) (l2 : (dig q.den).length ≤ cd) (n1 : NatB W A (dig q.num.natAbs)) (n2 : NatB W D (dig q.den)) : EvI w (W.alloc (.cells (qcells q A c D cd) 53)) W.heap.size rc q A c D cd := by
  have ha := (Below.refl W.heap.size W).alloc (Nat.le_refl _) (.cells (qcells q A c D cd) 53)
  exact ⟨hb.trans (ha.mono hb.size), hbx.alloc _, hr.alloc _, hr.lt, Blk.new W _ _, l1, l2, n1.old ha, n2.old ha⟩
set_option maxHeartbeats 4000000 in
set_option maxRecDepth 100000 in
theorem Eval_lin (t : RP) (i : Nat) (hlv : t.lv = (i : Int) + 1) (hi4 : i < 4) (hks : ∀ u ∈ t.ks, u.lv ≤ 0 ∧ u.ds.length < 48 ∧ Sm ((ival u.ng u.ds : Int) : Rat)) (hkl : t.ks.length ≤ 1000) (a : Rat) (ha : Sm a) (hs : ∀ j, Sm (hor a (t.ks.drop (j + 1))) ∧ Sm (hor a (t.ks.drop (j + 1)) * a)) (A : Option Addr) (c : Nat) (K : Option Addr) (kc n xc B bx ox : Nat) (Ax : Option Addr) (cx : Nat) (Dx : Option Addr) (ex : Nat) (w : World) (hB : B ≤ w.heap.size)
    (h : RV w (· < B) t (rcell t A c K kc)) (hin : i < n) (hnx : n ≤ xc) (hbx : bx < B) (hx0 : w.cell? ⟨bx, ox + i * 3, none⟩ = some (.bool (decide (a.num < 0)))) (hx1 : w.cell? ⟨bx, ox + i * 3 + 1, none⟩ = some (.slice Ax (dig a.num.natAbs).length cx)) (hx2 : w.cell? ⟨bx, ox + i * 3 + 2, none⟩ = some (.slice Dx (dig a.den).length ex)) (hq : QIn w B a Ax cx Dx ex) :
    Calls Tryz.prog 34 #[rval t A c K kc, .slice (some ⟨bx, ox, none⟩) n xc] w (RatRes (hor a t.ks) w) := by
  obtain ⟨hb0, k0, k1, _⟩ := boxes2 w 32 53 #[.int .i64 t.lv, .bool t.ng, .slice A t.ds.length c, .slice K t.ks.length kc] #[.bool false, .slice none 0 0, .slice none 0 0]
  obtain ⟨q0, hq0⟩ : ∃ q0 : Rat, q0 = 0 := ⟨_, rfl⟩
  have HO := Lib.hid (fun (W : World) => show Calls Tryz.prog 17 #[.int .i64 0] W (RatRes q0 W) by rw [hq0]; exact ROf_any 0 (by omega) (by omega) W)
  have HQ0 := Lib.hid hq0
  clear hq0
  unfold RatRes at HO
  have HFIN := Lib.hid (fun (w2 : World) (A D : Option Addr) (c cd : Nat) (hk : Blk w2 (w.heap.size + 1) 53 #[.bool false, .slice none 0 0, .slice none 0 0]) l1 l2 n1 n2 hb => RatFin (q := hor a t.ks) (w := w) (w2 := w2) (g := w.heap.size + 1) (A := A) (D := D) (c := c) (cd := cd) hk (Nat.le_succ _) l1 l2 n1 n2 hb)
  generalize RatRes (hor a t.ks) w = Post at *
  have HB0 := Lib.hid hb0; have HK0 := Lib.hid k0; have HK1 := Lib.hid k1
  have HRV := Lib.hid (fun (W : World) (hW : Below w.heap.size w W) => h.below (hW.mono hB))
  have HQX := Lib.hid (fun (W : World) (hW : Below w.heap.size w W) => hq.below (hW.mono hB))
  have HCX := Lib.hid (fun (W : World) (hW : Below w.heap.size w W) => (⟨(hW.cell (p := ⟨bx, ox + i * 3, none⟩) (Nat.lt_of_lt_of_le hbx hB)).trans hx0, (hW.cell (p := ⟨bx, ox + i * 3 + 1, none⟩) (Nat.lt_of_lt_of_le hbx hB)).trans hx1, (hW.cell (p := ⟨bx, ox + i * 3 + 2, none⟩) (Nat.lt_of_lt_of_le hbx hB)).trans hx2⟩ :
    W.cell? ⟨bx, ox + i * 3, none⟩ = some (.bool (decide (a.num < 0))) ∧ W.cell? ⟨bx, ox + i * 3 + 1, none⟩ = some (.slice Ax (dig a.num.natAbs).length cx) ∧ W.cell? ⟨bx, ox + i * 3 + 2, none⟩ = some (.slice Dx (dig a.den).length ex)))
  have HKC := Lib.hid h.node.2.2.2
  have HKS := Lib.hid hks; have HSA := Lib.hid ha; have HSS := Lib.hid hs; have HBB := Lib.hid hB; have HBX := Lib.hid hbx
  unfold rval
  rw [hlv] at HB0 HK0 HK1 ⊢
  clear hb0 k0 k1 h hq hx0 hx1 hx2 hks ha hs hlv hB hbx
  generalize hnk : t.ks.length = nk at *
  have HNK := Lib.hid hnk
  clear hnk
  generalize t.ds.length = dl at *
  generalize t.ng = tg at *
  have e1 : (i : Int) + 1 - 1 = (i : Int) := by omega
  have e2 : IntKind.i64.wrap ((i : Int) + 1 - 1) = (i : Int) := by rw [e1]; exact IntWalk.i64_in _ (by omega)
  have i1 : (i : Int) + 1 ≤ 4 := by omega
  have i2 : (i : Int) + 1 ≤ (n : Int) := by omega
  have i3 : (1 : Int) ≤ (i : Int) + 1 := by omega
  go_enter Tryz.func34, Tryz.ntmps34
  go_wp2_with fail
  generalize (w.alloc (.cells #[.int .i64 ((i : Int) + 1), .bool tg, .slice A dl c, .slice K nk kc] 32)).alloc (.cells #[.bool false, .slice none 0 0, .slice none 0 0] 53) = W0 at *
  refine (HO.out W0).mono ?_
  rintro e w1 ⟨A1, c1, D1, d1, rfl, l1, l2, n1, n2, hb1⟩
  have HST := Lib.hid (EvI.start (HB0.out.trans (hb1.mono HB0.out.size)) (HK0.out.old hb1) (HK1.out.old hb1) l1 l2 n1 n2)
  unfold qcells at HST
  clear hb1 l1 l2 n1 n2 HB0 HK0 HK1 HO
  go_upto_region 10 with (fail)
  generalize w1.alloc (.cells #[.bool (decide (q0.num < 0)), .slice A1 (dig q0.num.natAbs).length c1, .slice D1 (dig q0.den).length d1] 53) = W1 at *
  generalize w1.heap.size = g5 at *
  have b3 : W1.cell? ⟨w.heap.size, 3, none⟩ = some (.slice K nk kc) := HST.out.box.cell 3
  go_wp2_with fail
  clear b3
  go_loopg [6] nk (fun gn ix wr => ∃ (j : Nat) (Aq : Option Addr) (cq : Nat) (Dq : Option Addr) (dq : Nat), j ≤ nk ∧ gn = j ∧ ix = .int .i64 ((j : Int) - 1) ∧ EvI w wr g5 #[.int .i64 ((i : Int) + 1), .bool tg, .slice A dl c, .slice K nk kc] (hor a (t.ks.drop j)) Aq cq Dq dq)
  case atStart => exact ⟨nk, A1, c1, D1, d1, Nat.le_refl _, rfl, rfl, by rw [List.drop_of_length_le (by rw [HNK.out]; exact Nat.le_refl _)]; have := HST.out; rw [HQ0.out] at this; exact this⟩
  case round =>
    clear HST
    obtain ⟨j, Aq, cq, Dq, dq, hj, hg, rfl, hev⟩ := hrel
    have HG := Lib.hid hg
    clear hg
    rcases j with _ | j
    · rw [show ((0 : Nat) : Int) - 1 = -1 from rfl]
      rw [List.drop_zero] at hev
      have HEV := Lib.hid hev
      generalize hor a t.ks = r at *
      have s0 : wr.cell? ⟨g5, 0, none⟩ = some (.bool (decide (r.num < 0))) := hev.sum.cell 0
      have s1 : wr.cell? ⟨g5, 1, none⟩ = some (.slice Aq (dig r.num.natAbs).length cq) := hev.sum.cell 1
      have s2 : wr.cell? ⟨g5, 2, none⟩ = some (.slice Dq (dig r.den).length dq) := hev.sum.cell 2
      have d0 := hev.res.cell 0; have d1 := hev.res.cell 1; have d2 := hev.res.cell 2
      have f0 := hev.res.frozen 0; have f1 := hev.res.frozen 1; have f2 := hev.res.frozen 2
      have z0 := hev.res.lt
      have HR := Lib.hid (HFIN.out wr Aq Dq cq dq hev.res hev.l1 hev.l2 hev.n1 hev.n2 hev.bel)
      clear hev HFIN
      go_wp2_with fail
      exact ret_blk Tryz.results34 rfl rfl HR.out.1 Tryz.underlying53 rfl Tryz.sizeRat HR.out.2
    · rw [show ((j + 1 : Nat) : Int) - 1 = (j : Int) by omega]
      obtain ⟨u, hu⟩ : ∃ u, t.ks[j]? = some u := ⟨_, List.getElem?_eq_getElem (by have := HNK.out; omega)⟩
      obtain ⟨b, o, Au, cu, Ku, ku, rfl, hbB, x0, x1, x2, x3, hku⟩ := (HRV.out wr hev.bel).kid hu
      have hum := HKS.out u (List.mem_of_getElem? hu)
      have HST := Lib.hid (hor_drop a hu)
      have hsm := (HSS.out j)
      have hbw := hev.bel.size
      have HEC := Lib.hid (fun (V : World) (hV : Below wr.heap.size wr V) => Eval_const u hum.1 Au cu Ku ku (some ⟨bx, ox, none⟩) n xc wr.heap.size V hV.size ((hku.natIn.more (Nat.le_trans HBB.out hbw)).below hV) (by have := hum.2.1; omega))
      have HMU := Lib.hid (fun (V : World) (hV : Below wr.heap.size wr V) => RMul_q (hor a (t.ks.drop (j + 1))) a Aq cq Dq dq Ax cx Dx ex wr.heap.size V hV.size ((QIn.made hev.l1 hev.l2 hev.n1 hev.n2).below hV) (((HQX.out wr hev.bel).more (Nat.le_trans HBB.out hbw)).below hV) hsm.1 HSA.out)
      have HAD := Lib.hid (fun (V : World) (A : Option Addr) (c : Nat) (D : Option Addr) (cd : Nat) (A' : Option Addr) (c' : Nat) (D' : Option Addr) (cd' : Nat) a1 a2 a3 a4 b1 b2 b3 b4 => RAdd_q (hor a (t.ks.drop (j + 1)) * a) ((ival u.ng u.ds : Int) : Rat) A c D cd A' c' D' cd' V.heap.size V (Nat.le_refl _) (QIn.made a1 a2 a3 a4) (QIn.made b1 b2 b3 b4) hsm.2 hum.2.2)
      unfold RatRes at HEC HMU HAD
      unfold qval at HMU HAD
      rw [← HST.out] at HAD
      obtain ⟨cx0, cx1, cx2⟩ := HCX.out wr hev.bel
      have HPUT := Lib.hid (fun (W' : World) (A' D' : Option Addr) (c' cd' : Nat) hb l1 l2 n1 n2 => hev.put (r := hor a (t.ks.drop j)) (W' := W') (A' := A') (D' := D') (c' := c') (cd' := cd') hb l1 l2 n1 n2)
      have HEV := Lib.hid hev
      generalize hrr : hor a (t.ks.drop j) = r at *
      have HRR := Lib.hid hrr
      clear hrr
      generalize hor a (t.ks.drop (j + 1)) * a = pq at *
      generalize hor a (t.ks.drop (j + 1)) = q at *
      generalize ((ival u.ng u.ds : Int) : Rat) = cv at *
      unfold rval at HEC
      clear hsm hum hu hku hev HST
      generalize u.ds.length = ul at *
      generalize u.ks.length = uk at *
      generalize u.lv = uv at *
      generalize u.ng = ug at *
      have j3 : (0 : Int) ≤ (j : Int) := by omega
      have j4 : (j : Int) < (nk : Int) := by omega
      have j5 : (nk : Int) ≤ (kc : Int) := by have := HKC.out; omega
      have j6 : (i : Int) < (n : Int) := by omega
      have j7 : (n : Int) ≤ (xc : Int) := by omega
      have hgt := HEV.out.gt
      have hbxl : bx < wr.heap.size := Nat.lt_of_lt_of_le HBX.out (Nat.le_trans HBB.out hbw)
      have hbl : b < wr.heap.size := Nat.lt_of_lt_of_le hbB (Nat.le_trans HBB.out hbw)
      have KF := Lib.hid (fun (V : World) (hV : Below wr.heap.size wr V) => (⟨(HEV.out.box.old hV).cell 0, (HEV.out.box.old hV).cell 3, (hV.cell (p := ⟨bx, ox + i * 3, none⟩) hbxl).trans cx0, (hV.cell (p := ⟨bx, ox + i * 3 + 1, none⟩) hbxl).trans cx1, (hV.cell (p := ⟨bx, ox + i * 3 + 2, none⟩) hbxl).trans cx2, (hV.cell (p := ⟨b, o + j * 4, none⟩) hbl).trans x0, (hV.cell (p := ⟨b, o + j * 4 + 1, none⟩) hbl).trans x1, (hV.cell (p := ⟨b, o + j * 4 + 2, none⟩) hbl).trans x2, (hV.cell (p := ⟨b, o + j * 4 + 3, none⟩) hbl).trans x3⟩ :
        V.cell? ⟨w.heap.size, 0, none⟩ = some (.int .i64 ((i : Int) + 1)) ∧ V.cell? ⟨w.heap.size, 3, none⟩ = some (.slice (some ⟨b, o, none⟩) nk kc) ∧ V.cell? ⟨bx, ox + i * 3, none⟩ = some (.bool (decide (a.num < 0))) ∧ V.cell? ⟨bx, ox + i * 3 + 1, none⟩ = some (.slice Ax (dig a.num.natAbs).length cx) ∧ V.cell? ⟨bx, ox + i * 3 + 2, none⟩ = some (.slice Dx (dig a.den).length ex) ∧ V.cell? ⟨b, o + j * 4, none⟩ = some (.int .i64 uv) ∧ V.cell? ⟨b, o + j * 4 + 1, none⟩ = some (.bool ug) ∧ V.cell? ⟨b, o + j * 4 + 2, none⟩ = some (.slice Au ul cu) ∧ V.cell? ⟨b, o + j * 4 + 3, none⟩ = some (.slice Ku uk ku)))
      have q1 : g5 ≠ w.heap.size := by omega
      have q2 : g5 ≠ bx := by have := HBX.out; have := HBB.out; omega
      have q3 : g5 ≠ b := by have := HBB.out; omega
      have KS := Lib.hid (fun (V : World) (hV : Below wr.heap.size wr V) (a1 a2 a3 : Value) => (⟨cell_far3 (KF.out V hV).1 q1 a1 a2 a3, cell_far3 (KF.out V hV).2.1 q1 a1 a2 a3, cell_far3 (KF.out V hV).2.2.1 q2 a1 a2 a3, cell_far3 (KF.out V hV).2.2.2.1 q2 a1 a2 a3, cell_far3 (KF.out V hV).2.2.2.2.1 q2 a1 a2 a3, cell_far3 (KF.out V hV).2.2.2.2.2.1 q3 a1 a2 a3, cell_far3 (KF.out V hV).2.2.2.2.2.2.1 q3 a1 a2 a3, cell_far3 (KF.out V hV).2.2.2.2.2.2.2.1 q3 a1 a2 a3, cell_far3 (KF.out V hV).2.2.2.2.2.2.2.2 q3 a1 a2 a3⟩ :
        (((V.setCell ⟨g5, 0, none⟩ a1).setCell ⟨g5, 1, none⟩ a2).setCell ⟨g5, 2, none⟩ a3).cell? ⟨w.heap.size, 0, none⟩ = some (.int .i64 ((i : Int) + 1)) ∧ (((V.setCell ⟨g5, 0, none⟩ a1).setCell ⟨g5, 1, none⟩ a2).setCell ⟨g5, 2, none⟩ a3).cell? ⟨w.heap.size, 3, none⟩ = some (.slice (some ⟨b, o, none⟩) nk kc) ∧ (((V.setCell ⟨g5, 0, none⟩ a1).setCell ⟨g5, 1, none⟩ a2).setCell ⟨g5, 2, none⟩ a3).cell? ⟨bx, ox + i * 3, none⟩ = some (.bool (decide (a.num < 0))) ∧ (((V.setCell ⟨g5, 0, none⟩ a1).setCell ⟨g5, 1, none⟩ a2).setCell ⟨g5, 2, none⟩ a3).cell? ⟨bx, ox + i * 3 + 1, none⟩ = some (.slice Ax (dig a.num.natAbs).length cx) ∧ (((V.setCell ⟨g5, 0, none⟩ a1).setCell ⟨g5, 1, none⟩ a2).setCell ⟨g5, 2, none⟩ a3).cell? ⟨bx, ox + i * 3 + 2, none⟩ = some (.slice Dx (dig a.den).length ex) ∧ (((V.setCell ⟨g5, 0, none⟩ a1).setCell ⟨g5, 1, none⟩ a2).setCell ⟨g5, 2, none⟩ a3).cell? ⟨b, o + j * 4, none⟩ = some (.int .i64 uv) ∧ (((V.setCell ⟨g5, 0, none⟩ a1).setCell ⟨g5, 1, none⟩ a2).setCell ⟨g5, 2, none⟩ a3).cell? ⟨b, o + j * 4 + 1, none⟩ = some (.bool ug) ∧ (((V.setCell ⟨g5, 0, none⟩ a1).setCell ⟨g5, 1, none⟩ a2).setCell ⟨g5, 2, none⟩ a3).cell? ⟨b, o + j * 4 + 2, none⟩ = some (.slice Au ul cu) ∧ (((V.setCell ⟨g5, 0, none⟩ a1).setCell ⟨g5, 1, none⟩ a2).setCell ⟨g5, 2, none⟩ a3).cell? ⟨b, o + j * 4 + 3, none⟩ = some (.slice Ku uk ku)))
      have KG := Lib.hid (fun (V : World) (hV : Below wr.heap.size wr V) => HEV.out.sum.old hV)
      clear q1 q2 q3 hbxl hbl cx0 cx1 cx2 x0 x1 x2 x3 hgt hbB hbw HEV
      have hb : Below wr.heap.size wr wr.drew := (Drawn.drew _).below _
      have hb0 : Below wr.heap.size wr wr := Below.refl _ _
      have s0 : wr.drew.cell? ⟨g5, 0, none⟩ = some (.bool (decide (q.num < 0))) := (KG.out _ hb).cell 0
      have s1 : wr.drew.cell? ⟨g5, 1, none⟩ = some (.slice Aq (dig q.num.natAbs).length cq) := (KG.out _ hb).cell 1
      have s2 : wr.drew.cell? ⟨g5, 2, none⟩ = some (.slice Dq (dig q.den).length dq) := (KG.out _ hb).cell 2
      obtain ⟨za, zb, zc, zd, ze, zf, zg, zh, zi⟩ := KF.out _ hb
      have e3 : IntKind.i64.wrap (i : Int) = (i : Int) := IntWalk.i64_in _ (by omega)
      have e4 : (0 : Int) ≤ (i : Int) := by omega
      have e5 : (i : Int).toNat = i := Int.toNat_natCast i
      have hwj : IntKind.i64.wrap ((j : Int) - 1) = (j : Int) - 1 := IntWalk.i64_in _ (by have := HKC.out; omega)
      go_wp2_with fail
      refine wp_region_held_drew (S := fun w' => w'.cell? ⟨w.heap.size, 0, none⟩ = some (.int .i64 ((i : Int) + 1)) ∧ w'.cell? ⟨w.heap.size, 3, none⟩ = some (.slice (some ⟨b, o, none⟩) nk kc) ∧ w'.cell? ⟨bx, ox + i * 3, none⟩ = some (.bool (decide (a.num < 0))) ∧ w'.cell? ⟨bx, ox + i * 3 + 1, none⟩ = some (.slice Ax (dig a.num.natAbs).length cx) ∧ w'.cell? ⟨bx, ox + i * 3 + 2, none⟩ = some (.slice Dx (dig a.den).length ex) ∧ w'.cell? ⟨b, o + j * 4, none⟩ = some (.int .i64 uv) ∧ w'.cell? ⟨b, o + j * 4 + 1, none⟩ = some (.bool ug) ∧ w'.cell? ⟨b, o + j * 4 + 2, none⟩ = some (.slice Au ul cu) ∧ w'.cell? ⟨b, o + j * 4 + 3, none⟩ = some (.slice Ku uk ku)) (by kernel_rfl) (KF.out _ hb) (fun hHeld => ?_)
      refine wpAnyH_take (i := 1) (v := ?v1) (by simp only [List.getElem?_toArray, List.getElem?_cons_succ, List.getElem?_cons_zero]; rfl) (by kernel_rfl) (by kernel_rfl) (by kernel_rfl) (by exact fun _ _ _ h => h) (Or.inl ⟨by rfl, ?hy1⟩) (by assumption) ?rest1
      case hy1 => (intro w0 hSw; (try dsimp only at hSw); go_simp; (first | done | (with_reducible rfl)))
      simp only [Act.put, List.setIfInBounds_toArray, List.set_cons_zero, List.set_cons_succ]
      refine wpAnyH_take (i := 2) (v := ?v2) (by simp only [List.getElem?_toArray, List.getElem?_cons_succ, List.getElem?_cons_zero]; rfl) (by kernel_rfl) (by kernel_rfl) (by kernel_rfl) (by exact fun _ _ _ h => h) (Or.inl ⟨by rfl, ?hy2⟩) (by assumption) ?rest2
      case hy2 => (intro w0 hSw; (try dsimp only at hSw); go_simp; (first | done | (with_reducible rfl)))
      simp only [Act.put, List.setIfInBounds_toArray, List.set_cons_zero, List.set_cons_succ]
      refine wpAnyH_take (i := 3) (v := ?v3) (by simp only [List.getElem?_toArray, List.getElem?_cons_succ, List.getElem?_cons_zero]; rfl) (by kernel_rfl) (by kernel_rfl) (by kernel_rfl) (by exact fun _ _ _ h => h) (Or.inl ⟨by rfl, ?hy3⟩) (by assumption) ?rest3
      case hy3 => (intro w0 hSw; (try dsimp only at hSw); go_simp; (first | done | (with_reducible rfl)))
      simp only [Act.put, List.setIfInBounds_toArray, List.set_cons_zero, List.set_cons_succ]
      refine wpAnyH_take (i := 4) (v := ?v4) (by simp only [List.getElem?_toArray, List.getElem?_cons_succ, List.getElem?_cons_zero]; rfl) (by kernel_rfl) (by kernel_rfl) (by kernel_rfl) (by exact fun _ _ _ h => h) (Or.inl ⟨by rfl, ?hy4⟩) (by assumption) ?rest4
      case hy4 => (intro w0 hSw; (try dsimp only at hSw); go_simp; (first | done | (with_reducible rfl)))
      simp only [Act.put, List.setIfInBounds_toArray, List.set_cons_zero, List.set_cons_succ]
      refine wpAnyH_take (i := 5) (v := ?v5) (by simp only [List.getElem?_toArray, List.getElem?_cons_succ, List.getElem?_cons_zero]; rfl) (by kernel_rfl) (by kernel_rfl) (by kernel_rfl) (by exact fun _ _ _ h => h) (Or.inl ⟨by rfl, ?hy5⟩) (by assumption) ?rest5
      case hy5 => (intro w0 hSw; (try dsimp only at hSw); go_simp; (first | done | (with_reducible rfl)))
      simp only [Act.put, List.setIfInBounds_toArray, List.set_cons_zero, List.set_cons_succ]
      refine wpAnyH_take (i := 6) (v := ?v6) (by simp only [List.getElem?_toArray, List.getElem?_cons_succ, List.getElem?_cons_zero]; rfl) (by kernel_rfl) (by kernel_rfl) (by kernel_rfl) (by exact fun _ _ _ h => h) (Or.inl ⟨by rfl, ?hy6⟩) (by assumption) ?rest6
      case hy6 => (intro w0 hSw; (try dsimp only at hSw); go_simp; (first | done | (with_reducible rfl)))
      simp only [Act.put, List.setIfInBounds_toArray, List.set_cons_zero, List.set_cons_succ]
      refine wpAnyH_take (i := 8) (v := ?v8) (by simp only [List.getElem?_toArray, List.getElem?_cons_succ, List.getElem?_cons_zero]; rfl) (by kernel_rfl) (by kernel_rfl) (by kernel_rfl) (by exact fun _ _ _ h => h) (Or.inl ⟨by rfl, ?hy8⟩) (by assumption) ?rest8
      case hy8 => (intro w0 hSw; (try dsimp only at hSw); go_simp; (first | done | (with_reducible rfl)))
      simp only [Act.put, List.setIfInBounds_toArray, List.set_cons_zero, List.set_cons_succ]
      refine wpAnyH_take (i := 9) (v := ?v9) (by simp only [List.getElem?_toArray, List.getElem?_cons_succ, List.getElem?_cons_zero]; rfl) (by kernel_rfl) (by kernel_rfl) (by kernel_rfl) (by exact fun _ _ _ h => h) (Or.inl ⟨by rfl, ?hy9⟩) (by assumption) ?rest9
      case hy9 => (intro w0 hSw; (try dsimp only at hSw); go_simp; (first | done | (with_reducible rfl)))
      simp only [Act.put, List.setIfInBounds_toArray, List.set_cons_zero, List.set_cons_succ]
      refine wpAnyH_take (i := 10) (v := ?v10) (by simp only [List.getElem?_toArray, List.getElem?_cons_succ, List.getElem?_cons_zero]; rfl) (by kernel_rfl) (by kernel_rfl) (by kernel_rfl) (by exact fun _ _ _ h => h) (Or.inl ⟨by rfl, ?hy10⟩) (by assumption) ?rest10
      case hy10 => (intro w0 hSw; (try dsimp only at hSw); go_simp; (first | done | (with_reducible rfl)))
      simp only [Act.put, List.setIfInBounds_toArray, List.set_cons_zero, List.set_cons_succ]
      refine wpAnyH_take (i := 11) (v := ?v11) (by simp only [List.getElem?_toArray, List.getElem?_cons_succ, List.getElem?_cons_zero]; rfl) (by kernel_rfl) (by kernel_rfl) (by kernel_rfl) (by exact fun _ _ _ h => h) (Or.inl ⟨by rfl, ?hy11⟩) (by assumption) ?rest11
      case hy11 => (intro w0 hSw; (try dsimp only at hSw); go_simp; (first | done | (with_reducible rfl)))
      simp only [Act.put, List.setIfInBounds_toArray, List.set_cons_zero, List.set_cons_succ]
      refine wpAnyH_take (i := 12) (v := ?v12) (by simp only [List.getElem?_toArray, List.getElem?_cons_succ, List.getElem?_cons_zero]; rfl) (by kernel_rfl) (by kernel_rfl) (by kernel_rfl) (by exact fun _ _ _ h => h) (Or.inl ⟨by rfl, ?hy12⟩) (by assumption) ?rest12
      case hy12 => (intro w0 hSw; (try dsimp only at hSw); go_simp; (first | done | (with_reducible rfl)))
      simp only [Act.put, List.setIfInBounds_toArray, List.set_cons_zero, List.set_cons_succ]
      refine wpAnyH_take (i := 13) (v := ?v13) (by simp only [List.getElem?_toArray, List.getElem?_cons_succ, List.getElem?_cons_zero]; rfl) (by kernel_rfl) (by kernel_rfl) (by kernel_rfl) (by exact fun _ _ _ h => h) (Or.inl ⟨by rfl, ?hy13⟩) (by assumption) ?rest13
      case hy13 => (intro w0 hSw; (try dsimp only at hSw); go_simp; (first | done | (with_reducible rfl)))
      simp only [Act.put, List.setIfInBounds_toArray, List.set_cons_zero, List.set_cons_succ]
      refine wpAnyH_ready (rs := [0]) (by kernel_rfl) (by simp) ?_
      refine AllReadyH.cons (by simp only [List.getElem?_toArray, List.getElem?_cons_zero]; rfl) (fun K hK => ?_) AllReadyH.nil
      go_simp
      refine hK.out _ _ (KF.out _ hb) (fun hHeld => ?_)
      clear hK K
      (try simp only [Act.put, List.setIfInBounds_toArray, List.set_cons_zero, List.set_cons_succ])
      refine wpAnyH_ready (rs := [7]) (by kernel_rfl) (by simp) ?_
      refine AllReadyH.cons (by simp only [List.getElem?_toArray, List.getElem?_cons_succ, List.getElem?_cons_zero]; rfl) (fun K hK => ?_) AllReadyH.nil
      go_simp
      go_at_call 56
      refine (HMU.out _ hb).mono ?_
      rintro e w4 ⟨A3, c3, D3, d3, rfl, l3, m3, n3, p3, hk⟩
      replace hb := hb.trans (hk.mono hb.size)
      go_simp
      refine hK.out _ _ (KF.out _ hb) (fun hHeld => ?_)
      clear hK K
      (try simp only [Act.put, List.setIfInBounds_toArray, List.set_cons_zero, List.set_cons_succ])
      refine wpAnyH_ready (rs := [14]) (by kernel_rfl) (by simp) ?_
      refine AllReadyH.cons (by simp only [List.getElem?_toArray, List.getElem?_cons_succ, List.getElem?_cons_zero]; rfl) (fun K hK => ?_) AllReadyH.nil
      go_simp
      go_at_call 34
      refine (HEC.out _ hb).mono ?_
      rintro e w5 ⟨A4, c4, D4, d4, rfl, l4, m4, n4, p4, hk⟩
      replace n3 := NatB.old n3 hk
      replace p3 := NatB.old p3 hk
      replace hb := hb.trans (hk.mono hb.size)
      go_simp
      refine hK.out _ _ (KF.out _ hb) (fun hHeld => ?_)
      clear hK K
      (try simp only [Act.put, List.setIfInBounds_toArray, List.set_cons_zero, List.set_cons_succ])
      refine wpAnyH_ready (rs := [15]) (by kernel_rfl) (by simp) ?_
      refine AllReadyH.cons (by simp only [List.getElem?_toArray, List.getElem?_cons_succ, List.getElem?_cons_zero]; rfl) (fun K hK => ?_) AllReadyH.nil
      go_simp
      go_at_call 55
      refine (HAD.out _ A3 c3 D3 d3 A4 c4 D4 d4 l3 m3 n3 p3 l4 m4 n4 p4).mono ?_
      rintro e w6 ⟨A5, c5, D5, d5, rfl, l5, m5, n5, p5, hk⟩
      replace hb := hb.trans (hk.mono hb.size)
      go_simp
      refine hK.out _ _ (KF.out _ hb) (fun hHeld => ?_)
      clear hK K
      (try simp only [Act.put, List.setIfInBounds_toArray, List.set_cons_zero, List.set_cons_succ])
      have kk := KG.out _ hb
      have u0 : w6.cell? ⟨g5, 0, none⟩ = some (.bool (decide (q.num < 0))) := kk.cell 0
      have u1 : w6.cell? ⟨g5, 1, none⟩ = some (.slice Aq (dig q.num.natAbs).length cq) := kk.cell 1
      have u2 : w6.cell? ⟨g5, 2, none⟩ = some (.slice Dq (dig q.den).length dq) := kk.cell 2
      have f0 := kk.frozen 0
      have f1 := kk.frozen 1
      have f2 := kk.frozen 2
      have z0 := kk.lt
      refine wpAnyH_ready (rs := [16]) (by kernel_rfl) (by simp) ?_
      refine AllReadyH.cons (by simp only [List.getElem?_toArray, List.getElem?_cons_succ, List.getElem?_cons_zero]; rfl) (fun K hK => ?_) AllReadyH.nil
      go_simp
      refine hK.out _ _ (KS.out _ hb _ _ _) (fun hHeld => ?_)
      clear hK K
      (try simp only [Act.put, List.setIfInBounds_toArray, List.set_cons_zero, List.set_cons_succ])
      refine wpAnyH_done (by kernel_rfl) ?_ _
      have HN := Lib.hid (HPUT.out w6 A5 D5 c5 d5 hb l5 m5 n5 p5)
      go_wp2_with fail
      go_roundg j
      case rel => exact ⟨j, A5, c5, D5, d5, by omega, rfl, by go_num, by rw [HRR.out]; exact HN.out⟩
      case measure => have := HG.out; omega
end Go.Proofs.YtkkliemgidhgmaaGreatDoor
