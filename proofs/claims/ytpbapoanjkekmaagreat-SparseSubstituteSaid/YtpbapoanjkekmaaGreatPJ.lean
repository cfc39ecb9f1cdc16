/- Contract of the reference's Value. -/
import Derived.IntWalk
import Derived.Test.YtpbapoanjkekmaaGreatZR
import Derived.Test.YtpbapoanjkekmaaGreatPI
namespace Go.Proofs.YtpbapoanjkekmaaGreat
open Go.RowKit
attribute [local go_sem ↓] Go.wp_at_zero Go.wp_at_succ

/-- a box that holds a number in lowest terms -/
structure RS (V : World) (g : Nat) (q : Rat) (A : Option Addr) (c : Nat) (D : Option Addr) (d : Nat) : Prop where
  bx : Blk V g 33 (rcells q A c D d)
  l1 : (dig q.num.natAbs).length ≤ c
  l2 : (dig q.den).length ≤ d
  n1 : NatB V A (dig q.num.natAbs)
  n2 : NatB V D (dig q.den)
abbrev set3 (V : World) (g : Nat) (a b c : Value) : World := ((V.setCell ⟨g, 0, none⟩ a).setCell ⟨g, 1, none⟩ b).setCell ⟨g, 2, none⟩ c
theorem RS.old {V V' : World} {g : Nat} {q : Rat} {A D : Option Addr} {c d : Nat} (h : RS V g q A c D d) (hb : Below V.heap.size V V') : RS V' g q A c D d := ⟨h.bx.old hb, h.l1, h.l2, h.n1.old hb, h.n2.old hb⟩
theorem Blk.far3 {V : World} {g g' : Nat} {t : TypeId} {cs : Array Value} (h : Blk V g t cs) (hne : g ≠ g') (a b c : Value) : Blk (set3 V g' a b c) g t cs :=
  ((h.far (p := ⟨g', 0, none⟩) hne a).far (p := ⟨g', 1, none⟩) hne b).far (p := ⟨g', 2, none⟩) hne c
theorem RS.far {V : World} {g g' : Nat} {q : Rat} {A D : Option Addr} {c d : Nat} {cs : Array Value} (h : RS V g q A c D d) (hk : Blk V g' 33 cs) (hne : g ≠ g') (x y z : Value) : RS (set3 V g' x y z) g q A c D d :=
  ⟨h.bx.far3 hne x y z, h.l1, h.l2, NatB.keepTwo hk (by decide) _ _ _ h.n1, NatB.keepTwo hk (by decide) _ _ _ h.n2⟩
theorem RS.set {V : World} {g : Nat} {r : Rat} {A D : Option Addr} {c d : Nat} {u v z : Value} (hk : Blk V g 33 #[u, v, z]) (l1 : (dig r.num.natAbs).length ≤ c) (l2 : (dig r.den).length ≤ d) (n1 : NatB V A (dig r.num.natAbs)) (n2 : NatB V D (dig r.den)) :
    RS (set3 V g (.bool (decide (r.num < 0))) (.slice A (dig r.num.natAbs).length c) (.slice D (dig r.den).length d)) g r A c D d :=
  ⟨((hk.set_ 0 _).set_ 1 _).set_ 2 _, l1, l2, NatB.keepTwo hk (by decide) _ _ _ n1, NatB.keepTwo hk (by decide) _ _ _ n2⟩
theorem RS.new {V : World} {q : Rat} {A D : Option Addr} {c d : Nat} (l1 : (dig q.num.natAbs).length ≤ c) (l2 : (dig q.den).length ≤ d) (n1 : NatB V A (dig q.num.natAbs)) (n2 : NatB V D (dig q.den)) : RS (V.alloc (.cells (rcells q A c D d) 33)) V.heap.size q A c D d := by
  have ha := (Below.refl V.heap.size V).alloc (Nat.le_refl _) (.cells (rcells q A c D d) 33)
  exact ⟨Blk.new V _ _, l1, l2, n1.old ha, n2.old ha⟩
theorem below_set3 {B : Nat} {w V : World} (h : Below B w V) {g : Nat} (hg : B ≤ g) (a b c : Value) : Below B w (set3 V g a b c) :=
  ((h.setCell (p := ⟨g, 0, none⟩) hg a).setCell (p := ⟨g, 1, none⟩) hg b).setCell (p := ⟨g, 2, none⟩) hg c
/-- digits that stand below the call's start, or in blocks of digits -/
def NatE (w V : World) (A : Option Addr) (c : Nat) (ds : List Nat) : Prop := NatIn V w.heap.size A c ds ∨ (ds.length ≤ c ∧ Dig ds ∧ NatB V A ds)
theorem NatE.nin {w V : World} {A : Option Addr} {c : Nat} {q : Nat} (h : (dig q).length ≤ c) (hb : NatB V A (dig q)) : NatE w V A c (dig q) := .inr ⟨h, dig_dig q, hb⟩
theorem NatE.old {w V V' : World} {A : Option Addr} {c : Nat} {ds : List Nat} (h : NatE w V A c ds) (hw : Below w.heap.size w V) (hb : Below V.heap.size V V') : NatE w V' A c ds := by
  rcases h with h | ⟨h1, h2, h3⟩
  · exact .inl (h.below (hb.mono hw.size))
  · exact .inr ⟨h1, h2, h3.old hb⟩
theorem NatE.far {w V : World} {A : Option Addr} {c : Nat} {ds : List Nat} (h : NatE w V A c ds) {g : Nat} {cs : Array Value} (hk : Blk V g 33 cs) (hg : w.heap.size ≤ g) (x y z : Value) : NatE w (set3 V g x y z) A c ds := by
  rcases h with h | ⟨h1, h2, h3⟩
  · exact .inl (h.below (below_set3 (Below.refl w.heap.size V) hg x y z))
  · exact .inr ⟨h1, h2, NatB.keepTwo hk (by decide) _ _ _ h3⟩
theorem NatE.reads {w V : World} {A : Option Addr} {c : Nat} {ds : List Nat} (h : NatE w V A c ds) (hw : Below w.heap.size w V) : NatIn V V.heap.size A c ds := by
  rcases h with h | ⟨h1, h2, h3⟩
  · exact h.more hw.size
  · exact ⟨h3.reads, h2, h1⟩
/-- the walk's state outside of the rounds over a term -/
structure OS (w V : World) (gs : Nat) (s : Rat) (A : Option Addr) (c : Nat) (D : Option Addr) (d : Nat) : Prop where
  bel : Below w.heap.size w V
  res : Blk V w.heap.size 33 #[.bool false, .slice none 0 0, .slice none 0 0]
  sm : RS V gs s A c D d
  o1 : w.heap.size < gs
theorem OS.old {w V V' : World} {gs : Nat} {s : Rat} {A D : Option Addr} {c d : Nat} (h : OS w V gs s A c D d) (hb : Below V.heap.size V V') : OS w V' gs s A c D d := ⟨h.bel.trans (hb.mono h.bel.size), h.res.old hb, h.sm.old hb, h.o1⟩
theorem OS.far {w V : World} {gs g : Nat} {s : Rat} {A D : Option Addr} {c d : Nat} {cs : Array Value} (h : OS w V gs s A c D d) (hk : Blk V g 33 cs) (hg : gs < g) (x y z : Value) : OS w (set3 V g x y z) gs s A c D d :=
  ⟨below_set3 h.bel (Nat.le_of_lt (Nat.lt_trans h.o1 hg)) x y z, h.res.far3 (Nat.ne_of_lt (Nat.lt_trans h.o1 hg)) x y z, h.sm.far hk (Nat.ne_of_lt hg) x y z, h.o1⟩
theorem OS.put {w V V' : World} {gs : Nat} {s r : Rat} {A D A' D' : Option Addr} {c d c' d' : Nat} (h : OS w V gs s A c D d) (hb : Below V.heap.size V V') (l1 : (dig r.num.natAbs).length ≤ c') (l2 : (dig r.den).length ≤ d') (n1 : NatB V' A' (dig r.num.natAbs)) (n2 : NatB V' D' (dig r.den)) :
    OS w (set3 V' gs (.bool (decide (r.num < 0))) (.slice A' (dig r.num.natAbs).length c') (.slice D' (dig r.den).length d')) gs r A' c' D' d' :=
  ⟨below_set3 (h.bel.trans (hb.mono h.bel.size)) (Nat.le_of_lt h.o1) _ _ _, (h.res.old hb).far3 (Nat.ne_of_lt h.o1) _ _ _, RS.set (h.sm.bx.old hb) l1 l2 n1 n2, h.o1⟩
/-- the box of a coordinate -/
structure VB (w V : World) (gv : Nat) (y : QT) : Prop where
  bx : Blk V gv 33 #[.bool y.ng, .slice y.A y.ds.length y.c, .slice y.D y.es.length y.cd]
  e1 : NatE w V y.A y.c y.ds
  e2 : NatE w V y.D y.cd y.es
theorem VB.old {w V V' : World} {gv : Nat} {y : QT} (h : VB w V gv y) (hw : Below w.heap.size w V) (hb : Below V.heap.size V V') : VB w V' gv y := ⟨h.bx.old hb, h.e1.old hw hb, h.e2.old hw hb⟩
theorem VB.far {w V : World} {gv g : Nat} {y : QT} {cs : Array Value} (h : VB w V gv y) (hk : Blk V g 33 cs) (hg : w.heap.size ≤ g) (hne : gv ≠ g) (a b c : Value) : VB w (set3 V g a b c) gv y := ⟨h.bx.far3 hne a b c, h.e1.far hk hg a b c, h.e2.far hk hg a b c⟩
/-- a number in lowest terms as a placed one -/
def qtOf (q : Rat) (A : Option Addr) (c : Nat) (D : Option Addr) (d : Nat) : QT := { ng := decide (q.num < 0), ds := dig q.num.natAbs, A, c, es := dig q.den, D, cd := d }
theorem qtOf_q (q : Rat) (A : Option Addr) (c : Nat) (D : Option Addr) (d : Nat) : (qtOf q A c D d).q = q := r_self q
theorem tvn_RL {pt : Nat → Rat} {P E Z : Nat} (hp : ∀ i, RL (pt i) P) {x : Rat} {m : Mo} (hx : RL x Z) (hm : ∀ k, k < 4 → (gt m k).toNat ≤ E) (k : Nat) (hk : k < 4) (n : Nat) (hn : n ≤ (gt m k).toNat) : RL (tvT pt x m k * pt k ^ n) (Z + 4 * (P * E)) := by
  have h := tvT_RL hp hx hm k (by omega)
  have he := hm k hk
  have h4 : k * (P * E) + P * E ≤ 4 * (P * E) := by rw [← Nat.succ_mul]; exact Nat.mul_le_mul_right _ hk
  cases n with
  | zero => rw [Rat.pow_zero, Rat.mul_one]; exact h.mono (by omega)
  | succ n => exact (h.mul (((hp k).pow n).mono (Nat.mul_le_mul_left P (Nat.le_trans hn he)))).mono (by omega)
theorem evL_take (pt : Nat → Rat) {ps : List PT} {k : Nat} {p : PT} (hp : ps[k]? = some p) : evL pt ((ps.take (k + 1)).map PT.tm) = evL pt ((ps.take k).map PT.tm) + if vld p.m = true then tvT pt ((ival p.ng p.ds : Int) : Rat) p.m 4 else 0 := by
  rw [take_snoc_tm hp, evL_snoc]
  show _ + (if vld p.m = true then ((ival p.ng p.ds : Int) : Rat) * mval pt p.m else 0) = _
  rw [tvT_four]
set_option maxHeartbeats 4000000 in
set_option maxRecDepth 100000 in
theorem Value_any (A : Option Addr) (c B E : Nat) (ps : List PT) (Av : Option Addr) (cv : Nat) (vs : List QT) (P Z : Nat) (w : World) (hB : B ≤ w.heap.size) (h : PolyIn w B A ps) (hv : RatsIn w B Av vs) (hmb : ∀ p ∈ ps, MB (E : Int) p.m) (hdl : ∀ p ∈ ps, p.ds.length ≤ Z) (hZ1 : Z ≤ 1000) (hZ0 : 0 < Z) (hP0 : 0 < P) (hP : ∀ x ∈ vs, x.ds.length ≤ P ∧ x.es.length ≤ P) (hP1 : P ≤ 1000)
    (hE : E ≤ 1000000) (hL1 : Z + 4 * (P * E) ≤ 150000) (hL2 : ps.length * (Z + 4 * (P * E) + 1) + 1 ≤ 150000) :
    Calls Tryz.prog 11 #[.slice A ps.length c, .slice Av vs.length cv] w (RatRes (evL (ptL vs) (ps.map PT.tm)) w) := by
  have hpt : ∀ i, RL (ptL vs i) P := ptL_RL hP0 (fun x hx => ⟨(hP x hx).1, (hP x hx).2, (hv.nn x hx).dg, (hv.nd x hx).dg⟩)
  have HPT := Lib.hid hpt
  have HO := Lib.hid (fun (W : World) => ROf_any 0 (by omega) (by omega) W)
  have HO2 := Lib.hid (fun (W : World) => ROf_any 0 (by omega) (by omega) W)
  rw [show ((0 : Int) : Rat) = evL (ptL vs) [] from rfl] at HO HO2
  have HVS := Lib.hid (fun (V : World) (hW : Below w.heap.size w V) => hv.below (hW.mono hB))
  have HPS := Lib.hid (fun (V : World) (hW : Below w.heap.size w V) => h.below (hW.mono hB))
  have HPV := Lib.hid hP; have HMB := Lib.hid hmb; have HDL := Lib.hid hdl; have HBW := Lib.hid hB
  have HZX := Lib.hid (fun (p : PT) (hp : p ∈ ps) => show (ival p.ng p.ds).natAbs < 4294967296 ^ Z by
    rw [ival_abs]
    exact Nat.lt_of_lt_of_le (val_lt (h.nt p hp).dg) (Nat.pow_le_pow_right (n := 4294967296) (by decide) (hdl p hp)))
  have HRS := Lib.hid (fun (k : Nat) => show RL (evL (ptL vs) ((ps.take k).map PT.tm)) 150000 by
    refine (evL_RL (P := P) (E := E) hpt hZ0 _ ?_).mono (Nat.le_trans (Nat.add_le_add_right (Nat.mul_le_mul_right _ ?_) 1) hL2)
    · intro t ht
      obtain ⟨y, hy, rfl⟩ := List.mem_map.1 ht
      have hy' := List.mem_of_mem_take hy
      exact ⟨HZX.out y hy', fun k hk => mb_gt (hmb y hy') k hk⟩
    · rw [List.length_map, List.length_take]
      exact Nat.min_le_right _ _)
  have HE0 := Lib.hid (show evL (ptL vs) [] = 0 from rfl)
  have HS0 := Lib.hid (show evL (ptL vs) ((ps.take 0).map PT.tm) = evL (ptL vs) [] by rw [List.take_zero, List.map_nil])
  have HSN := Lib.hid (show evL (ptL vs) ((ps.take ps.length).map PT.tm) = evL (ptL vs) (ps.map PT.tm) by rw [List.take_length])
  have HTK := Lib.hid (fun (k : Nat) (p : PT) (hp : ps[k]? = some p) => evL_take (ptL vs) hp)
  have HFIN := Lib.hid (fun (w2 : World) (A D : Option Addr) (c cd : Nat) (hk : Blk w2 w.heap.size 33 #[.bool false, .slice none 0 0, .slice none 0 0]) l1 l2 n1 n2 hb => RatFin (q := evL (ptL vs) (ps.map PT.tm)) (w := w) (w2 := w2) (g := w.heap.size) (A := A) (D := D) (c := c) (cd := cd) hk (Nat.le_refl _) l1 l2 n1 n2 hb)
  generalize RatRes (evL (ptL vs) (ps.map PT.tm)) w = Post at *
  unfold RatRes at HO HO2
  generalize evL (ptL vs) (ps.map PT.tm) = qf at *
  generalize evL (ptL vs) [] = q0 at *
  have hps1 : ps.length ≤ 150000 := by
    have := Nat.le_mul_of_pos_right ps.length (show 0 < Z + 4 * (P * E) + 1 by omega)
    omega
  have HL1 := Lib.hid hL1
  clear h hv hmb hdl hpt hP hB hL2 hL1
  generalize hvl : vs.length = vn at *
  have HVL := Lib.hid hvl
  clear hvl
  generalize hpn : ps.length = pn at *
  have HPN := Lib.hid hpn
  clear hpn
  have hb0 := (Below.refl w.heap.size w).alloc (Nat.le_refl _) (.cells #[.bool false, .slice none 0 0, .slice none 0 0] 33)
  have HK0 := Lib.hid (Blk.new w 33 #[.bool false, .slice none 0 0, .slice none 0 0])
  have HB0 := Lib.hid hb0
  clear hb0
  go_enter Tryz.func11, Tryz.ntmps11
  go_wp2_with fail
  generalize w.alloc (.cells #[.bool false, .slice none 0 0, .slice none 0 0] 33) = W0 at *
  refine (HO.out W0).mono ?_
  rintro e w1 ⟨A1, c1, D1, d1, rfl, l1, l2, n1, n2, hb1⟩
  have hal := (Below.refl w1.heap.size w1).alloc (Nat.le_refl _) (.cells (rcells q0 A1 c1 D1 d1) 33)
  have hb2 := HB0.out.trans (hb1.mono HB0.out.size)
  have HST := Lib.hid (show OS w (w1.alloc (.cells (rcells q0 A1 c1 D1 d1) 33)) w1.heap.size q0 A1 c1 D1 d1 from ⟨hb2.trans (hal.mono hb2.size), (HK0.out.old hb1).old hal, RS.new l1 l2 n1 n2, (HK0.out.old hb1).lt⟩)
  unfold rcells at HST
  clear hal hb2 l1 l2 n1 n2 hb1 HB0 HK0 HO
  go_upto_region 2 with (fail)
  generalize w1.alloc (.cells #[.bool (decide (q0.num < 0)), .slice A1 (dig q0.num.natAbs).length c1, .slice D1 (dig q0.den).length d1] 33) = W1 at *
  generalize w1.heap.size = g5 at *
  go_wp2_with fail
  go_loopg [6, 7, 8, 9, 10] pn (fun gn ix _ _ _ _ wr => ∃ (i : Nat) (A : Option Addr) (c : Nat) (D : Option Addr) (d : Nat), i ≤ pn ∧ gn = pn - i ∧ ix = .int .i64 i ∧ OS w wr g5 (evL (ptL vs) ((ps.take i).map PT.tm)) A c D d)
  case atStart => exact ⟨0, A1, c1, D1, d1, by omega, rfl, rfl, by rw [HS0.out]; exact HST.out⟩
  case round =>
    clear HST
    obtain ⟨i, A2, c2, D2, d2, hi, hgi, rfl, hos⟩ := hrel
    have HG := Lib.hid hgi
    clear hgi
    by_cases hlt : i < pn
    · obtain ⟨p, hp⟩ : ∃ p, ps[i]? = some p := ⟨_, List.getElem?_eq_getElem (by have := HPN.out; omega)⟩
      have hpm := List.mem_of_getElem? hp
      have hin := HPS.out wr hos.bel
      obtain ⟨b, o, rfl, hbb, x0, x1, x2, x3, x4, x5⟩ := hin.at_ hp
      have j1 : (i : Int) < (pn : Int) := by omega
      have j0 : (0 : Int) ≤ (i : Int) := by omega
      have HRV := Lib.hid (fun (V : World) => RV_any p.m V)
      have htr := HTK.out i p hp
      have hbw : b < wr.heap.size := Nat.lt_of_lt_of_le hbb (Nat.le_trans HBW.out hos.bel.size)
      have HOS := Lib.hid hos
      have HNP := Lib.hid (hin.nt p hpm)
      unfold moV at HRV
      cases hvp : vld p.m with
      | false =>
        rw [hvp] at HRV htr
        simp only [Bool.false_eq_true, if_false, Rat.add_zero] at htr
        have HTR := Lib.hid htr
        clear htr hos hin hp hpm hbb hvp HNP
        go_wp2_with (go_at_call 34; refine (HRV.out _).mono ?_; rintro e w3 ⟨rfl, hl⟩)
        go_roundg (pn - (i + 1))
        case rel => exact ⟨i + 1, A2, c2, D2, d2, by omega, rfl, by go_num, by rw [HTR.out]; exact HOS.out.old hl.below⟩
        case measure => have := HG.out; omega
      | true =>
        rw [hvp] at HRV htr
        simp only [if_true] at htr
        have HTR := Lib.hid htr
        have HGT := Lib.hid (fun (k : Nat) (hk : k < 4) => (⟨(gt p.m k).toNat, (Int.toNat_of_nonneg (vld_gt hvp k hk)).symm, mb_gt (HMB.out p hpm) k hk⟩ : ∃ n : Nat, gt p.m k = (n : Int) ∧ n ≤ E))
        have HRN := Lib.hid (fun (k : Nat) (hk : k < 4) (n : Nat) (hn : n ≤ (gt p.m k).toNat) => (tvn_RL HPT.out (RL.int hZ0 (HZX.out p hpm)) (fun k hk => mb_gt (HMB.out p hpm) k hk) k hk n hn).mono HL1.out)
        have HR4 := Lib.hid ((tvT_RL HPT.out (RL.int hZ0 (HZX.out p hpm)) (fun k hk => mb_gt (HMB.out p hpm) k hk) 4 (Nat.le_refl _)).mono HL1.out)
        have HT0 := Lib.hid (show tvT (ptL vs) ((ival p.ng p.ds : Int) : Rat) p.m 0 = ((ival p.ng p.ds : Int) : Rat) from rfl)
        have HT2 := Lib.hid (fun (k : Nat) => show tvT (ptL vs) ((ival p.ng p.ds : Int) : Rat) p.m (k + 1) = tvT (ptL vs) ((ival p.ng p.ds : Int) : Rat) p.m k * ptL vs k ^ (gt p.m k).toNat from rfl)
        have HDP := Lib.hid (Nat.le_trans (HDL.out p hpm) hZ1)
        have HXC := Lib.hid (fun (V : World) (hV : Below wr.heap.size wr V) => (⟨(hV.cell (p := ⟨b, o + i * 6, none⟩) hbw).trans x0, (hV.cell (p := ⟨b, o + i * 6 + 1, none⟩) hbw).trans x1⟩ : V.cell? ⟨b, o + i * 6, none⟩ = some (.bool p.ng) ∧ V.cell? ⟨b, o + i * 6 + 1, none⟩ = some (.slice p.A p.ds.length p.c)))
        have HEP := Lib.hid (fun (V : World) (hV : Below w.heap.size w V) (k : Nat) (hk : k < 4) (n : Nat) (hn : gt p.m k = (n : Int)) => show V.cell? ⟨b, o + i * 6 + 2 + k, none⟩ = some (.int .i64 (n : Int)) by
          obtain ⟨b', o', he, _, _, _, y2, y3, y4, y5⟩ := (HPS.out V hV).at_ hp
          cases he
          rw [← hn]
          rcases (by omega : k = 0 ∨ k = 1 ∨ k = 2 ∨ k = 3) with rfl | rfl | rfl | rfl
          · exact y2
          · exact y3
          · exact y4
          · exact y5)
        clear htr hos hin hp hpm hvp
        have HFR := Lib.hid (fun (V : World) (hV : Below wr.heap.size wr V) => RFrom_any p.ng p.A p.c B p.ds V (Nat.le_trans (Nat.le_trans HBW.out HOS.out.bel.size) hV.size) (HNP.out.below (hV.mono (Nat.le_trans HBW.out HOS.out.bel.size))) (by have := HDP.out; omega))
        unfold RatRes at HFR
        generalize ((ival p.ng p.ds : Int) : Rat) = q1 at *
        generalize tvT (ptL vs) q1 p.m = tv at *
        generalize hss : evL (ptL vs) ((ps.take i).map PT.tm) = s0 at *
        have HSS := Lib.hid hss
        clear hss
        go_upto_region 6 with (go_at_call 34; refine (HRV.out _).mono ?_; rintro e w3 ⟨rfl, hl⟩)
        have hb3 := hl.below
        obtain ⟨y0, y1⟩ := HXC.out _ hb3
        have HL3 := Lib.hid hb3
        clear hl hb3
        go_upto_region 7 with (go_at_call 31; refine (HFR.out _ HL3.out).mono ?_; rintro e w4 ⟨A4, c4, D4, d4, rfl, l4, m4, n4, p4, hb4⟩)
        have hal := (Below.refl w4.heap.size w4).alloc (Nat.le_refl _) (.cells (rcells q1 A4 c4 D4 d4) 33)
        have hb34 := (HL3.out.trans (hb4.mono HL3.out.size))
        have hos4 := (HOS.out.old hb34).old hal
        have hrs4 := RS.new l4 m4 n4 p4
        have hg57 : g5 < w4.heap.size := ((HOS.out.old hb34).sm.bx).lt
        have HOS4 := Lib.hid hos4; have HRS4 := Lib.hid hrs4
        unfold rcells at HOS4 HRS4
        clear y0 y1 l4 m4 n4 p4 hb4 hb34 hal hos4 hrs4 HL3 HFR HXC
        generalize w4.alloc (.cells #[.bool (decide (q1.num < 0)), .slice A4 (dig q1.num.natAbs).length c4, .slice D4 (dig q1.den).length d4] 33) = W4 at *
        generalize w4.heap.size = g7 at *
        clear x0 x1 x2 x3 x4 x5 HRV hbw HNP HOS
        go_wp2_with fail
        go_loopg [8, 9, 10] 4 (fun gn kx _ _ wr => ∃ (k : Nat) (A : Option Addr) (c : Nat) (D : Option Addr) (d : Nat), k ≤ 4 ∧ gn = 4 - k ∧ kx = .int .i64 (k : Int) ∧ OS w wr g5 s0 A2 c2 D2 d2 ∧ RS wr g7 (tv k) A c D d)
        case atStart => exact ⟨0, A4, c4, D4, d4, by omega, rfl, rfl, HOS4.out, by rw [HT0.out]; exact HRS4.out⟩
        case round =>
          clear HOS4 HRS4
          obtain ⟨k, A5, c5, D5, d5, hk, hgk, rfl, hos, hrs⟩ := hrel
          have HG4 := Lib.hid hgk
          clear hgk
          by_cases hk4 : k < 4
          · obtain ⟨nn, hnn, hnE⟩ := HGT.out k hk4
            have hkI : (k : Int) < 4 := by omega
            have hkI0 : (0 : Int) ≤ (k : Int) := by omega
            have HNN := Lib.hid hnn
            have HOS := Lib.hid hos; have HRS5 := Lib.hid hrs
            clear hnn hos hrs
            go_upto_region 11 with (go_at_call 22; refine (HO2.out _).mono ?_; rintro e w5 ⟨A6, c6, D6, d6, rfl, l6, m6, n6, p6, hb6⟩)
            have hal := (Below.refl w5.heap.size w5).alloc (Nat.le_refl _) (.cells (rcells q0 A6 c6 D6 d6) 33)
            have hrs6 := RS.new l6 m6 n6 p6
            have hbel6 := (HOS.out.old hb6).bel
            have HVB0 := Lib.hid (show VB w (w5.alloc (.cells (rcells q0 A6 c6 D6 d6) 33)) w5.heap.size (qtOf q0 A6 c6 D6 d6) from ⟨hrs6.bx, NatE.nin l6 hrs6.n1, NatE.nin m6 hrs6.n2⟩)
            have HOS6 := Lib.hid ((HOS.out.old hb6).old hal)
            have HRS6 := Lib.hid ((HRS5.out.old hb6).old hal)
            have hg79 : g7 < w5.heap.size := (HRS5.out.old hb6).bx.lt
            have u0 : (w5.alloc (.cells (rcells q0 A6 c6 D6 d6) 33)).cell? ⟨w5.heap.size, 0, none⟩ = some (.bool (decide (q0.num < 0))) := hrs6.bx.cell 0
            have u1 : (w5.alloc (.cells (rcells q0 A6 c6 D6 d6) 33)).cell? ⟨w5.heap.size, 1, none⟩ = some (.slice A6 (dig q0.num.natAbs).length c6) := hrs6.bx.cell 1
            have u2 : (w5.alloc (.cells (rcells q0 A6 c6 D6 d6) 33)).cell? ⟨w5.heap.size, 2, none⟩ = some (.slice D6 (dig q0.den).length d6) := hrs6.bx.cell 2
            have f0 := hrs6.bx.frozen 0; have f1 := hrs6.bx.frozen 1; have f2 := hrs6.bx.frozen 2; have z0 := hrs6.bx.lt
            unfold rcells at HVB0 HOS6 HRS6 u0 u1 u2 f0 f1 f2 z0
            clear l6 m6 n6 p6 hb6 hal hrs6 hbel6 HOS HRS5
            generalize w5.alloc (.cells #[.bool (decide (q0.num < 0)), .slice A6 (dig q0.num.natAbs).length c6, .slice D6 (dig q0.den).length d6] 33) = W6 at *
            generalize w5.heap.size = g9 at *
            by_cases hkl : k < vn
            · obtain ⟨y, hy⟩ : ∃ y, vs[k]? = some y := ⟨_, List.getElem?_eq_getElem (by have := HVL.out; omega)⟩
              have hri := HVS.out W6 HOS6.out.bel
              obtain ⟨ba, oa, rfl, hba, y0, y1, y2⟩ := hri.at_ hy
              have hkv : (k : Int) < (vn : Int) := by omega
              have hym := List.mem_of_getElem? hy
              have hg9 : w.heap.size ≤ g9 := by have := HOS6.out.o1; omega
              have HM := Lib.hid (show OS w (set3 W6 g9 (.bool y.ng) (.slice y.A y.ds.length y.c) (.slice y.D y.es.length y.cd)) g5 s0 A2 c2 D2 d2 ∧ RS (set3 W6 g9 (.bool y.ng) (.slice y.A y.ds.length y.c) (.slice y.D y.es.length y.cd)) g7 (tv k) A5 c5 D5 d5 ∧ VB w (set3 W6 g9 (.bool y.ng) (.slice y.A y.ds.length y.c) (.slice y.D y.es.length y.cd)) g9 y ∧ mkRat (ival y.ng y.ds) (val y.es) = ptL vs k ∧ y.ds.length ≤ 1000 ∧ y.es.length ≤ 1000 from
                ⟨HOS6.out.far HVB0.out.bx (Nat.lt_trans hg57 hg79) _ _ _, HRS6.out.far HVB0.out.bx (Nat.ne_of_lt hg79) _ _ _,
                  ⟨((HVB0.out.bx.set_ 0 _).set_ 1 _).set_ 2 _, .inl (((hri.nn y hym).more HBW.out).below (below_set3 (Below.refl w.heap.size W6) hg9 _ _ _)), .inl (((hri.nd y hym).more HBW.out).below (below_set3 (Below.refl w.heap.size W6) hg9 _ _ _))⟩,
                  (ptL_some hy).symm, Nat.le_trans (HPV.out y hym).1 hP1, Nat.le_trans (HPV.out y hym).2 hP1⟩)
              clear hri hba hym hy HVB0 HOS6 HRS6 hg9
              unfold set3 at HM
              generalize hyl : y.ds.length = yl at *
              generalize hyk : y.es.length = yk at *
              have HYL := Lib.hid (And.intro hyl hyk)
              clear hyl hyk
              go_upto_region 13 with (fail)
              clear y0 y1 y2 u0 u1 u2 f0 f1 f2 z0
              generalize ((W6.setCell ⟨g9, 0, none⟩ (.bool y.ng)).setCell ⟨g9, 1, none⟩ (.slice y.A yl y.c)).setCell ⟨g9, 2, none⟩ (.slice y.D yk y.cd) = W7 at *
              obtain ⟨rfl, rfl⟩ := HYL.out
              clear hkv hkl HYL
              go_wp2_with fail
              go_loopg [10] nn (fun gn nx wr => ∃ (n : Nat) (A : Option Addr) (c : Nat) (D : Option Addr) (d : Nat), n ≤ nn ∧ gn = nn - n ∧ nx = .int .i64 (n : Int) ∧ OS w wr g5 s0 A2 c2 D2 d2 ∧ RS wr g7 (tv k * ptL vs k ^ n) A c D d ∧ VB w wr g9 y)
              case atStart => exact ⟨0, A5, c5, D5, d5, by omega, rfl, rfl, HM.out.1, by rw [Rat.pow_zero, Rat.mul_one]; exact HM.out.2.1, HM.out.2.2.1⟩
              case round =>
                obtain ⟨_, _, _, hyq, hyd, hye⟩ := HM.out
                clear HM
                obtain ⟨n, A8, c8, D8, d8, hn, hgn, rfl, hos, hrs, hvb⟩ := hrel
                have HGN := Lib.hid hgn
                clear hgn
                have hex := HEP.out _ hos.bel k hk4 nn HNN.out
                by_cases hnl : n < nn
                · have hni : (n : Int) < (nn : Int) := by omega
                  have HMU := Lib.hid (RMul_big (decide ((tv k * ptL vs k ^ n).num < 0)) y.ng A8 c8 (dig (tv k * ptL vs k ^ n).num.natAbs) D8 d8 (dig (tv k * ptL vs k ^ n).den) y.A y.c y.ds y.D y.cd y.es wr.heap.size wr (Nat.le_refl _) (natB_nin hrs.n1 hrs.l1) (natB_nin hrs.n2 hrs.l2) (hvb.e1.reads hos.bel) (hvb.e2.reads hos.bel) (HRN.out k hk4 n (by have := HNN.out; omega)).n (HRN.out k hk4 n (by have := HNN.out; omega)).d (by omega) (by omega))
                  rw [r_self, hyq, Rat.mul_assoc, ← Rat.pow_succ] at HMU
                  unfold RatRes at HMU
                  generalize hqn : tv k * ptL vs k ^ (n + 1) = qn at *
                  generalize hqo : tv k * ptL vs k ^ n = qo at *
                  have HQN := Lib.hid hqn
                  have hxb := hrs.bx
                  unfold rcells at hxb
                  have v0 := hxb.cell 0; have v1 := hxb.cell 1; have v2 := hxb.cell 2
                  have w0 := hvb.bx.cell 0; have w1' := hvb.bx.cell 1; have w2 := hvb.bx.cell 2
                  have HXB := Lib.hid hxb; have HOS := Lib.hid hos; have HVB := Lib.hid hvb
                  clear hxb hos hrs hvb hqn hqo hyq hyd hye
                  generalize y.ds.length = yl at *
                  generalize y.es.length = yk at *
                  go_wp2_with (go_at_call 15; refine HMU.out.mono ?_; rintro e w7 ⟨A7, c7, D7, d7, rfl, l7, m7, n7, p7, hb7⟩; have kk := HXB.out.old hb7; have u0 := kk.cell 0; have u1 := kk.cell 1; have u2 := kk.cell 2; have f0 := kk.frozen 0; have f1 := kk.frozen 1; have f2 := kk.frozen 2; have z0 := kk.lt)
                  have hw9 : w.heap.size ≤ g7 := by have := HOS.out.o1; omega
                  go_roundg (nn - (n + 1))
                  case rel => exact ⟨n + 1, A7, c7, D7, d7, by omega, rfl, by go_num, (HOS.out.old hb7).far kk hg57 _ _ _, by rw [HQN.out]; exact RS.set kk l7 m7 n7 p7, (HVB.out.old HOS.out.bel hb7).far kk hw9 (Nat.ne_of_gt hg79) _ _ _⟩
                  case measure => have := HGN.out; omega
                · obtain rfl : n = nn := by omega
                  have hni : ¬ (n : Int) < (n : Int) := by omega
                  have HN := Lib.hid (show RS wr g7 (tv (k + 1)) A8 c8 D8 d8 by rw [HT2.out, HNN.out, Int.toNat_natCast]; exact hrs)
                  have HOS := Lib.hid hos
                  clear hos hrs hvb hyq hyd hye
                  go_wp2_with fail
                  go_roundg (4 - (k + 1))
                  case rel => exact ⟨k + 1, A8, c8, D8, d8, by omega, rfl, by go_num, HOS.out, HN.out⟩
                  case measure => have := HG4.out; omega
            · obtain ⟨y, hy⟩ : ∃ y, y = qtOf q0 A6 c6 D6 d6 := ⟨_, rfl⟩
              have hkv : ¬ (k : Int) < (vn : Int) := by omega
              have HM := Lib.hid (show OS w W6 g5 s0 A2 c2 D2 d2 ∧ RS W6 g7 (tv k) A5 c5 D5 d5 ∧ VB w W6 g9 y ∧ mkRat (ival y.ng y.ds) (val y.es) = ptL vs k ∧ y.ds.length ≤ 1000 ∧ y.es.length ≤ 1000 from
                ⟨HOS6.out, HRS6.out, hy ▸ HVB0.out, by rw [ptL_none (by have := HVL.out; omega), ← HE0.out, hy]; exact qtOf_q q0 A6 c6 D6 d6, by
                  rw [hy]
                  have := (RL.zero (L := 1) (by omega)).n
                  rw [← HE0.out] at this
                  exact Nat.le_trans this (by omega), by
                  rw [hy]
                  have := (RL.zero (L := 1) (by omega)).d
                  rw [← HE0.out] at this
                  exact Nat.le_trans this (by omega)⟩)
              clear hy u0 u1 u2 f0 f1 f2 z0 HVB0 HOS6 HRS6
              go_upto_region 13 with (fail)
              clear hkv hkl
              go_wp2_with fail
              go_loopg [10] nn (fun gn nx wr => ∃ (n : Nat) (A : Option Addr) (c : Nat) (D : Option Addr) (d : Nat), n ≤ nn ∧ gn = nn - n ∧ nx = .int .i64 (n : Int) ∧ OS w wr g5 s0 A2 c2 D2 d2 ∧ RS wr g7 (tv k * ptL vs k ^ n) A c D d ∧ VB w wr g9 y)
              case atStart => exact ⟨0, A5, c5, D5, d5, by omega, rfl, rfl, HM.out.1, by rw [Rat.pow_zero, Rat.mul_one]; exact HM.out.2.1, HM.out.2.2.1⟩
              case round =>
                obtain ⟨_, _, _, hyq, hyd, hye⟩ := HM.out
                clear HM
                obtain ⟨n, A8, c8, D8, d8, hn, hgn, rfl, hos, hrs, hvb⟩ := hrel
                have HGN := Lib.hid hgn
                clear hgn
                have hex := HEP.out _ hos.bel k hk4 nn HNN.out
                by_cases hnl : n < nn
                · have hni : (n : Int) < (nn : Int) := by omega
                  have HMU := Lib.hid (RMul_big (decide ((tv k * ptL vs k ^ n).num < 0)) y.ng A8 c8 (dig (tv k * ptL vs k ^ n).num.natAbs) D8 d8 (dig (tv k * ptL vs k ^ n).den) y.A y.c y.ds y.D y.cd y.es wr.heap.size wr (Nat.le_refl _) (natB_nin hrs.n1 hrs.l1) (natB_nin hrs.n2 hrs.l2) (hvb.e1.reads hos.bel) (hvb.e2.reads hos.bel) (HRN.out k hk4 n (by have := HNN.out; omega)).n (HRN.out k hk4 n (by have := HNN.out; omega)).d (by omega) (by omega))
                  rw [r_self, hyq, Rat.mul_assoc, ← Rat.pow_succ] at HMU
                  unfold RatRes at HMU
                  generalize hqn : tv k * ptL vs k ^ (n + 1) = qn at *
                  generalize hqo : tv k * ptL vs k ^ n = qo at *
                  have HQN := Lib.hid hqn
                  have hxb := hrs.bx
                  unfold rcells at hxb
                  have v0 := hxb.cell 0; have v1 := hxb.cell 1; have v2 := hxb.cell 2
                  have w0 := hvb.bx.cell 0; have w1' := hvb.bx.cell 1; have w2 := hvb.bx.cell 2
                  have HXB := Lib.hid hxb; have HOS := Lib.hid hos; have HVB := Lib.hid hvb
                  clear hxb hos hrs hvb hqn hqo hyq hyd hye
                  generalize y.ds.length = yl at *
                  generalize y.es.length = yk at *
                  go_wp2_with (go_at_call 15; refine HMU.out.mono ?_; rintro e w7 ⟨A7, c7, D7, d7, rfl, l7, m7, n7, p7, hb7⟩; have kk := HXB.out.old hb7; have u0 := kk.cell 0; have u1 := kk.cell 1; have u2 := kk.cell 2; have f0 := kk.frozen 0; have f1 := kk.frozen 1; have f2 := kk.frozen 2; have z0 := kk.lt)
                  have hw9 : w.heap.size ≤ g7 := by have := HOS.out.o1; omega
                  go_roundg (nn - (n + 1))
                  case rel => exact ⟨n + 1, A7, c7, D7, d7, by omega, rfl, by go_num, (HOS.out.old hb7).far kk hg57 _ _ _, by rw [HQN.out]; exact RS.set kk l7 m7 n7 p7, (HVB.out.old HOS.out.bel hb7).far kk hw9 (Nat.ne_of_gt hg79) _ _ _⟩
                  case measure => have := HGN.out; omega
                · obtain rfl : n = nn := by omega
                  have hni : ¬ (n : Int) < (n : Int) := by omega
                  have HN := Lib.hid (show RS wr g7 (tv (k + 1)) A8 c8 D8 d8 by rw [HT2.out, HNN.out, Int.toNat_natCast]; exact hrs)
                  have HOS := Lib.hid hos
                  clear hos hrs hvb hyq hyd hye
                  go_wp2_with fail
                  go_roundg (4 - (k + 1))
                  case rel => exact ⟨k + 1, A8, c8, D8, d8, by omega, rfl, by go_num, HOS.out, HN.out⟩
                  case measure => have := HG4.out; omega
          · obtain rfl : k = 4 := by omega
            have hk4' : ¬ (((4 : Nat) : Int) < 4) := by omega
            have HAD := Lib.hid (RAdd_r s0 (tv 4) A2 c2 D2 d2 A5 c5 D5 d5 wr.heap.size wr (Nat.le_refl _) (RIn.made hos.sm.l1 hos.sm.l2 hos.sm.n1 hos.sm.n2) (RIn.made hrs.l1 hrs.l2 hrs.n1 hrs.n2) (by rw [← HSS.out]; exact HRS.out i) HR4.out (Nat.le_refl _) (Nat.le_refl _))
            unfold RatRes rvl at HAD
            have HTR2 := Lib.hid HTR.out
            rw [← HTR.out] at HAD
            generalize hq' : evL (ptL vs) ((ps.take (i + 1)).map PT.tm) = q' at *
            have HQ' := Lib.hid hq'
            have hsb := hos.sm.bx; have hxb := hrs.bx
            unfold rcells at hsb hxb
            have b0 := hsb.cell 0; have b1 := hsb.cell 1; have b2 := hsb.cell 2
            have v0 := hxb.cell 0; have v1 := hxb.cell 1; have v2 := hxb.cell 2
            have HSB := Lib.hid hsb; have HOSL := Lib.hid hos
            clear hsb hxb hos hrs hq'
            generalize tv 4 = t4 at *
            go_wp2_with (go_at_call 13; refine HAD.out.mono ?_; rintro e w7 ⟨A7, c7, D7, d7, rfl, l7, m7, n7, p7, hb7⟩; have kk := HSB.out.old hb7; have u0 := kk.cell 0; have u1 := kk.cell 1; have u2 := kk.cell 2; have f0 := kk.frozen 0; have f1 := kk.frozen 1; have f2 := kk.frozen 2; have z0 := kk.lt)
            go_roundg (pn - (i + 1))
            case rel => exact ⟨i + 1, A7, c7, D7, d7, by omega, rfl, by go_num, by rw [HQ'.out]; exact HOSL.out.put hb7 l7 m7 n7 p7⟩
            case measure => have := HG.out; omega
    · obtain rfl : i = pn := by omega
      rw [HSN.out] at hos
      have hi' : ¬ (i : Int) < (i : Int) := by omega
      have b0 := hos.sm.bx.cell 0; have b1 := hos.sm.bx.cell 1; have b2 := hos.sm.bx.cell 2
      have s0 : wr.cell? ⟨g5, 0, none⟩ = some (.bool (decide (qf.num < 0))) := hos.sm.bx.cell 0
      have s1 : wr.cell? ⟨g5, 1, none⟩ = some (.slice A2 (dig qf.num.natAbs).length c2) := hos.sm.bx.cell 1
      have s2 : wr.cell? ⟨g5, 2, none⟩ = some (.slice D2 (dig qf.den).length d2) := hos.sm.bx.cell 2
      have d0' := hos.res.cell 0; have d1' := hos.res.cell 1; have d2' := hos.res.cell 2
      have f0 := hos.res.frozen 0; have f1 := hos.res.frozen 1; have f2 := hos.res.frozen 2
      have z0 := hos.res.lt
      have HR := Lib.hid (HFIN.out wr A2 D2 c2 d2 hos.res hos.sm.l1 hos.sm.l2 hos.sm.n1 hos.sm.n2 hos.bel)
      clear hos HFIN b0 b1 b2
      go_wp2_with fail
      exact ret_blk Tryz.results11 rfl rfl HR.out.1 Tryz.underlying33 rfl Tryz.sizeRat HR.out.2
end Go.Proofs.YtpbapoanjkekmaaGreat
