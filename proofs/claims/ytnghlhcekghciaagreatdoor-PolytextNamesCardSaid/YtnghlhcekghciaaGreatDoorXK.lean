/- The reference's Add of two integers. -/
import Derived.Deep.RegionHeld3
import Derived.Test.YtnghlhcekghciaaGreatDoorXJ
import Derived.Test.YtnghlhcekghciaaGreatDoorZI
namespace Go.Proofs.YtnghlhcekghciaaGreatDoor
open Go.RowKit

/-- a result: the canonical form of z, in memory of the call's own -/
def IntResK (z : Int) (w : World) (e : Ending) (w' : World) : Prop :=
  ∃ A c, e = .returned (.agg #[.bool (decide (z < 0)), .slice A (dig z.natAbs).length c]) ∧ (dig z.natAbs).length ≤ c ∧ NatK w' A (dig z.natAbs) ∧ Below w.heap.size w w'
theorem NatK.far {w : World} {A : Option Addr} {ds : List Nat} (h : NatK w A ds) {g : Nat} {t : TypeId} {cs : Array Value} (hb : Blk w g t cs) (ht : t ≠ 39) (o : Nat) (u : Value) : NatK (w.setCell ⟨g, o, none⟩ u) A ds :=
  h.keep fun g' cs' k => k.far (by
    rintro rfl
    unfold Blk at k hb
    rw [k] at hb
    injection hb with hb
    injection hb with _ h1
    exact ht h1.symm) u
theorem NatK.two {w : World} {A : Option Addr} {ds : List Nat} (h : NatK w A ds) {g : Nat} {t : TypeId} {cs : Array Value} (hb : Blk w g t cs) (ht : t ≠ 39) (u v : Value) : NatK ((w.setCell ⟨g, 0, none⟩ u).setCell ⟨g, 1, none⟩ v) A ds :=
  (h.far hb ht 0 u).far (hb.set_ 0 u) ht 1 v
/-- what stands behind the two trims -/
def CutXY (W : World) (x y : Nat) (u v : Value) (wc : World) : Prop :=
  ∃ A1 c1 A2 c2, u = .slice A1 (dig x).length c1 ∧ v = .slice A2 (dig y).length c2 ∧ NatIn wc wc.heap.size A1 c1 (dig x) ∧ NatIn wc wc.heap.size A2 c2 (dig y) ∧ Below W.heap.size W wc
theorem CutXY.mk {W w2 : World} {x y : Nat} {A1 A2 : Option Addr} {c1 c2 : Nat} (h1 : (dig x).length ≤ c1) (h2 : NatK w2 A1 (dig x)) (k1 : (dig y).length ≤ c2) (k2 : NatK w2 A2 (dig y)) (hb : Below W.heap.size W w2) : CutXY W x y (.slice A1 (dig x).length c1) (.slice A2 (dig y).length c2) w2 :=
  ⟨A1, c1, A2, c2, rfl, rfl, NatResK.nin h1 h2, NatResK.nin k1 k2, hb⟩

/-- what stands behind the making of the sum -/
def OutAt (Z : World) (ng : Bool) (sm : Nat) (v : Value) (wc : World) : Prop :=
  ∃ g A c, v = .pointer (some ⟨g, 0, none⟩) ∧ Blk wc g 43 #[.bool ng, .slice A (dig sm).length c] ∧ (dig sm).length ≤ c ∧ NatK wc A (dig sm) ∧ Below Z.heap.size Z wc ∧ Z.heap.size ≤ g

theorem OutAt.a {Z w1 : World} {ng : Bool} {sm : Nat} {A : Option Addr} {c : Nat} (h1 : (dig sm).length ≤ c) (h2 : NatK w1 A (dig sm)) (hb : Below Z.heap.size Z w1) : OutAt Z ng sm (.pointer (some ⟨w1.heap.size, 0, none⟩)) (w1.alloc (.cells #[.bool ng, .slice A (dig sm).length c] 43)) :=
  ⟨_, A, c, rfl, Blk.new w1 _ _, h1, h2.keep fun _ _ k => k.alloc _, hb.alloc hb.size _, hb.size⟩
theorem OutAt.b {Z w1 : World} {ng : Bool} {sm g : Nat} {A : Option Addr} {c : Nat} {cs : Array Value} (h1 : (dig sm).length ≤ c) (h2 : NatK w1 A (dig sm)) (hb : Below Z.heap.size Z w1) (hg : Z.heap.size ≤ g) (hp : Blk w1 g 43 cs) (hc : cs.size = 2) :
    OutAt Z ng sm (.pointer (some ⟨g, 0, none⟩)) ((w1.setCell ⟨g, 0, none⟩ (.bool ng)).setCell ⟨g, 1, none⟩ (.slice A (dig sm).length c)) := by
  refine ⟨g, A, c, rfl, ?_, h1, h2.two hp (by decide) _ _, (hb.setCell hg _).setCell hg _, hg⟩
  have := (hp.set_ 0 (.bool ng)).set_ 1 (.slice A (dig sm).length c)
  obtain ⟨l⟩ := cs
  match l, hc with
  | [x, y], _ => simpa using this

set_option maxHeartbeats 1000000 in
set_option maxRecDepth 100000 in
theorem RAdd_same (ng : Bool) (A A' : Option Addr) (c c' B : Nat) (ds es : List Nat) (w : World) (hB : B ≤ w.heap.size) (h : NatIn w B A c ds) (h' : NatIn w B A' c' es) (hm : ds.length ≤ 100000) (hm' : es.length ≤ 100000) :
    Calls Tryz.prog 31 #[.agg #[.bool ng, .slice A ds.length c], .agg #[.bool ng, .slice A' es.length c']] w (IntResK (ival ng ds + ival ng es) w) := by
  have HX := Lib.hid (boxes3 w 43 43 43 #[.bool ng, .slice A ds.length c] #[.bool ng, .slice A' es.length c'] #[.bool false, .slice none 0 0])
  have HT1 := Lib.hid (fun (V : World) (hV : Below w.heap.size w V) => RTrim_any A c B ds V (Nat.le_trans hB hV.size) (h.below (hV.mono hB)) (by omega))
  have HT2 := Lib.hid (fun (V : World) (hV : Below w.heap.size w V) => RTrim_any A' c' B es V (Nat.le_trans hB hV.size) (h'.below (hV.mono hB)) (by omega))
  have HL1 := Lib.hid (show (dig (val ds)).length ≤ 100000 by have := dig_len_le h.dg; omega)
  have HL2 := Lib.hid (show (dig (val es)).length ≤ 100000 by have := dig_len_le h'.dg; omega)
  clear h h'
  unfold NatResK at HT1 HT2
  go_enter Tryz.func31, Tryz.ntmps31
  go_wp2_with fail
  generalize ((w.alloc (.cells #[.bool ng, .slice A ds.length c] 43)).alloc (.cells #[.bool ng, .slice A' es.length c'] 43)).alloc (.cells #[.bool false, .slice none 0 0] 43) = W at *
  obtain ⟨hb0, k0, k1, k2, hs⟩ := HX.out
  have HS := Lib.hid hs
  clear hs HX
  have c1 : W.cell? ⟨w.heap.size, 1, none⟩ = some (.slice A ds.length c) := k0.cell 1
  have c3 : W.cell? ⟨w.heap.size + 1, 1, none⟩ = some (.slice A' es.length c') := k1.cell 1
  have l0 := k0.lt; have l1 := k1.lt; have l2 := k2.lt
  have hWd : Below W.heap.size W W.drew := (Drawn.drew _).below _
  have hWw : Below W.heap.size W W := Below.refl _ _
  have KF := Lib.hid (fun (V : World) (hV : Below W.heap.size W V) => show Below W.heap.size W V ∧ V.cell? ⟨w.heap.size, 1, none⟩ = some (.slice A ds.length c) ∧ V.cell? ⟨w.heap.size + 1, 1, none⟩ = some (.slice A' es.length c') from ⟨hV, (hV.cell l0).trans c1, (hV.cell l1).trans c3⟩)
  have KB := Lib.hid (fun (V : World) (hV : Below W.heap.size W V) => hb0.trans (hV.mono hb0.size))
  go_cut [5, 6] (fun u v wc => CutXY W (val ds) (val es) u v wc)
  case first =>
    go_region_held3 (fun w' => Below W.heap.size W w' ∧ w'.cell? ⟨w.heap.size, 1, none⟩ = some (.slice A ds.length c) ∧ w'.cell? ⟨w.heap.size + 1, 1, none⟩ = some (.slice A' es.length c'))
      ((refine KF.out _ ?_; first | (with_reducible exact hWd) | (with_reducible exact hbB) | (with_reducible exact hbA) | (with_reducible exact hWw)))
      (first
        | (go_at_call 50; (first | (with_reducible refine (HT1.out _ (KB.out _ hWd)).mono ?_) | (with_reducible refine (HT1.out _ (KB.out _ hbB)).mono ?_)); rintro e w1 ⟨A1, c1', rfl, h1, h2, h3⟩; (first | (have h2B := NatK.old hk2 h3; have hbA := hbB.trans (h3.mono hbB.size)) | (have hbA := hWd.trans (h3.mono hWd.size))))
        | (go_at_call 50; (first | (with_reducible refine (HT2.out _ (KB.out _ hWd)).mono ?_) | (with_reducible refine (HT2.out _ (KB.out _ hbA)).mono ?_)); rintro e w2 ⟨A2, c2', rfl, g1, hk2, g3⟩; (first | (have h2A := NatK.old h2 g3; have hbB := hbA.trans (g3.mono hbA.size)) | (have hbB := hWd.trans (g3.mono hWd.size)))))
    all_goals go_wp2_with fail
    all_goals go_meet
    all_goals first | (with_reducible exact CutXY.mk h1 h2A g1 hk2 hbB) | (with_reducible exact CutXY.mk h1 h2 g1 h2B hbA)
  case rest =>
    obtain ⟨A1, c1', A2, c2', rfl, rfl, n1, n2, hbc⟩ := hcut
    have HPL := Lib.hid (fun (V : World) (hV : Below wc.heap.size wc V) => RPlus_any A1 A2 c1' c2' wc.heap.size (dig (val ds)) (dig (val es)) V hV.size (n1.below hV) (n2.below hV) HL1.out HL2.out)
    unfold NatResK at HPL
    rw [val_dig, val_dig] at HPL
    have d0 : wc.cell? ⟨w.heap.size, 0, none⟩ = some (.bool ng) := (hbc.cell l0).trans (k0.cell 0)
    have d1 : wc.cell? ⟨w.heap.size + 1, 0, none⟩ = some (.bool ng) := (hbc.cell l1).trans (k1.cell 0)
    have z0 := Nat.lt_of_lt_of_le l0 hbc.size
    have z1 := Nat.lt_of_lt_of_le l1 hbc.size
    have kr := k2.old hbc
    have hbw := hb0.trans (hbc.mono hb0.size)
    clear c1 c3 l0 l1 l2 hWd hWw KF KB k0 k1 k2 hbc n1 n2 HT1 HT2 hb0
    generalize hsm : val ds + val es = sm at *
    generalize (dig (val ds)).length = l1 at *
    generalize (dig (val es)).length = l2 at *
    obtain ⟨Z, hZ⟩ : ∃ Z, Z = wc := ⟨_, rfl⟩
    subst hZ
    have hZd : Below Z.heap.size Z Z.drew := (Drawn.drew _).below _
    have hZw : Below Z.heap.size Z Z := Below.refl _ _
    have hZa : Below Z.heap.size Z (Z.alloc (.cells #[.bool false, .slice none 0 0] 43)).drew := (hZw.alloc (Nat.le_refl _) _).trans ((Drawn.drew _).below _)
    have KF := Lib.hid (fun (V : World) (hV : Below Z.heap.size Z V) => show Below Z.heap.size Z V ∧ V.cell? ⟨w.heap.size, 0, none⟩ = some (.bool ng) from ⟨hV, (hV.cell z0).trans d0⟩)
    go_wp2_with fail
    go_cut [7] (fun v wc => OutAt Z ng sm v wc)
    case first =>
      go_region_held3 (fun w' => Below Z.heap.size Z w' ∧ w'.cell? ⟨w.heap.size, 0, none⟩ = some (.bool ng))
        ((refine KF.out _ ?_; repeat (first | (with_reducible exact hZd) | (with_reducible exact hZw) | (with_reducible exact hZa) | (with_reducible exact hb1) | (with_reducible refine Below.drew ?_) | ((with_reducible refine Below.alloc ?_ ?_ _); rotate_left; (first | exact Nat.le_refl _ | exact s1 | (simp; omega))) | ((with_reducible refine Below.setCell ?_ ?_ _); rotate_left; (first | exact Nat.le_refl _ | exact s1 | (simp; omega))))))
        ((go_at_call 51; (first | (with_reducible refine (HPL.out _ hZd).mono ?_) | (with_reducible refine (HPL.out _ hZa).mono ?_)); rintro e w1 ⟨A3, c3, rfl, h1, h2, h3⟩; (first | (have hb1 := hZd.trans (h3.mono hZd.size)) | (have hb1 := hZa.trans (h3.mono hZa.size); have p1 := Blk.old (show Blk (Z.alloc (.cells #[.bool false, .slice none 0 0] 43)).drew Z.heap.size 43 #[.bool false, .slice none 0 0] from Blk.new Z _ _) h3; have e0 : w1.cell? ⟨Z.heap.size, 0, none⟩ = some (.bool false) := p1.cell 0; have e1 : w1.cell? ⟨Z.heap.size, 1, none⟩ = some (.slice none 0 0) := p1.cell 1; have f0 := p1.frozen 0; have f1 := p1.frozen 1; have z9 := p1.lt)); have s1 := hb1.size))
      all_goals go_wp2_with fail
      all_goals go_meet
      all_goals first | (with_reducible exact OutAt.a h1 h2 hb1) | (with_reducible exact OutAt.b h1 h2 hb1 (Nat.le_refl _) p1 rfl)
    case rest =>
      obtain ⟨g, A3, c3, rfl, kg, h1, h2, hbz, hgz⟩ := hcut
      have HE := Lib.hid (iadd_same ng ds es)
      have HSM' := Lib.hid hsm
      have kq := kr.old hbz
      have e0 : wc.cell? ⟨g, 0, none⟩ = some (.bool ng) := kg.cell 0
      have e1 : wc.cell? ⟨g, 1, none⟩ = some (.slice A3 (dig sm).length c3) := kg.cell 1
      have e2 : wc.cell? ⟨w.heap.size, 0, none⟩ = some (.bool ng) := (hbz.cell z0).trans d0
      have e3 : wc.cell? ⟨w.heap.size + 1, 0, none⟩ = some (.bool ng) := (hbz.cell z1).trans d1
      have q0 : wc.cell? ⟨w.heap.size + 2, 0, none⟩ = some (.bool false) := kq.cell 0
      have q1 : wc.cell? ⟨w.heap.size + 2, 1, none⟩ = some (.slice none 0 0) := kq.cell 1
      have f0 := kq.frozen 0; have f1 := kq.frozen 1
      have y0 := Nat.lt_of_lt_of_le z0 hbz.size
      have y1 := Nat.lt_of_lt_of_le z1 hbz.size
      have y2 := kq.lt; have y3 := kg.lt
      have hbw' := hbw.trans (hbz.mono hbw.size)
      have hng : (ng != ng) = false := by simp
      clear KF hZd hZw hZa d0 d1 z0 z1 kr hbw hbz HPL hsm
      by_cases h0 : (dig sm).length = 0
      · have h0b : (((dig sm).length : Int) == 0) = true := by simp [h0]
        have HSZ := Lib.hid (dig_len0.1 h0)
        clear h0
        go_wp2_with fail
        have hz : (ival ng ds + ival ng es).natAbs = 0 := by rw [HE.out.1, HSM'.out, HSZ.out]
        exact ret_blk Tryz.results31 rfl rfl ((kq.set_ 0 _).set_ 1 _) Tryz.underlying43 rfl Tryz.sizeInt ⟨none, 0, by rw [show ival ng ds + ival ng es = 0 by omega]; simp [dig_zero], by rw [hz, dig_zero]; exact Nat.le_refl _, by rw [hz, dig_zero]; exact .inl rfl, (hbw'.setCell (Nat.le_add_right _ 2) _).setCell (Nat.le_add_right _ 2) _⟩
      · have h0b : (((dig sm).length : Int) == 0) = false := by simpa using h0
        have H0 := Lib.hid h0
        clear h0
        go_wp2_with fail
        exact ret_blk Tryz.results31 rfl rfl ((kq.set_ 0 _).set_ 1 _) Tryz.underlying43 rfl Tryz.sizeInt ⟨A3, c3, by rw [HE.out.1, HE.out.2, HSM'.out, show decide (0 < (dig sm).length) = true by have := H0.out; simp; omega, Bool.and_true]; rfl, by rw [HE.out.1, HSM'.out]; exact h1, by rw [HE.out.1, HSM'.out]; exact h2.two kq (by decide) _ _, (hbw'.setCell (Nat.le_add_right _ 2) _).setCell (Nat.le_add_right _ 2) _⟩

set_option maxHeartbeats 1000000 in
set_option maxRecDepth 100000 in
theorem RAdd_other (ng : Bool) (A A' : Option Addr) (c c' B : Nat) (ds es : List Nat) (w : World) (hB : B ≤ w.heap.size) (h : NatIn w B A c ds) (h' : NatIn w B A' c' es) (hm : ds.length ≤ 100000) (hm' : es.length ≤ 100000) :
    Calls Tryz.prog 31 #[.agg #[.bool ng, .slice A ds.length c], .agg #[.bool (!ng), .slice A' es.length c']] w (IntResK (ival ng ds + ival (!ng) es) w) := by
  have hng : (ng != !ng) = true := by cases ng <;> rfl
  have hne : ¬ ng = !ng := by cases ng <;> simp
  have hnb : (ng == !ng) = false := by cases ng <;> rfl
  have HGE := Lib.hid (fun hh => iadd_ge ng ds es hh); have HLT := Lib.hid (fun hh => iadd_lt ng ds es hh)
  generalize hngp : (!ng) = ng' at *
  have HNG := Lib.hid hngp; clear hngp
  have HX := Lib.hid (boxes3 w 43 43 43 #[.bool ng, .slice A ds.length c] #[.bool ng', .slice A' es.length c'] #[.bool false, .slice none 0 0])
  have HT1 := Lib.hid (fun (V : World) (hV : Below w.heap.size w V) => RTrim_any A c B ds V (Nat.le_trans hB hV.size) (h.below (hV.mono hB)) (by omega))
  have HT2 := Lib.hid (fun (V : World) (hV : Below w.heap.size w V) => RTrim_any A' c' B es V (Nat.le_trans hB hV.size) (h'.below (hV.mono hB)) (by omega))
  have HL1 := Lib.hid (show (dig (val ds)).length ≤ 100000 by have := dig_len_le h.dg; omega)
  have HL2 := Lib.hid (show (dig (val es)).length ≤ 100000 by have := dig_len_le h'.dg; omega)
  clear h h'
  unfold NatResK at HT1 HT2
  go_enter Tryz.func31, Tryz.ntmps31
  go_wp2_with fail
  generalize ((w.alloc (.cells #[.bool ng, .slice A ds.length c] 43)).alloc (.cells #[.bool ng', .slice A' es.length c'] 43)).alloc (.cells #[.bool false, .slice none 0 0] 43) = W at *
  obtain ⟨hb0, k0, k1, k2, hs⟩ := HX.out
  have HS := Lib.hid hs
  clear hs HX
  have c1 : W.cell? ⟨w.heap.size, 1, none⟩ = some (.slice A ds.length c) := k0.cell 1
  have c3 : W.cell? ⟨w.heap.size + 1, 1, none⟩ = some (.slice A' es.length c') := k1.cell 1
  have l0 := k0.lt; have l1 := k1.lt; have l2 := k2.lt
  have hWd : Below W.heap.size W W.drew := (Drawn.drew _).below _
  have hWw : Below W.heap.size W W := Below.refl _ _
  have KF := Lib.hid (fun (V : World) (hV : Below W.heap.size W V) => show Below W.heap.size W V ∧ V.cell? ⟨w.heap.size, 1, none⟩ = some (.slice A ds.length c) ∧ V.cell? ⟨w.heap.size + 1, 1, none⟩ = some (.slice A' es.length c') from ⟨hV, (hV.cell l0).trans c1, (hV.cell l1).trans c3⟩)
  have KB := Lib.hid (fun (V : World) (hV : Below W.heap.size W V) => hb0.trans (hV.mono hb0.size))
  go_cut [5, 6] (fun u v wc => CutXY W (val ds) (val es) u v wc)
  case first =>
    go_region_held3 (fun w' => Below W.heap.size W w' ∧ w'.cell? ⟨w.heap.size, 1, none⟩ = some (.slice A ds.length c) ∧ w'.cell? ⟨w.heap.size + 1, 1, none⟩ = some (.slice A' es.length c'))
      ((refine KF.out _ ?_; first | (with_reducible exact hWd) | (with_reducible exact hbB) | (with_reducible exact hbA) | (with_reducible exact hWw)))
      (first
        | (go_at_call 50; (first | (with_reducible refine (HT1.out _ (KB.out _ hWd)).mono ?_) | (with_reducible refine (HT1.out _ (KB.out _ hbB)).mono ?_)); rintro e w1 ⟨A1, c1', rfl, h1, h2, h3⟩; (first | (have h2B := NatK.old hk2 h3; have hbA := hbB.trans (h3.mono hbB.size)) | (have hbA := hWd.trans (h3.mono hWd.size))))
        | (go_at_call 50; (first | (with_reducible refine (HT2.out _ (KB.out _ hWd)).mono ?_) | (with_reducible refine (HT2.out _ (KB.out _ hbA)).mono ?_)); rintro e w2 ⟨A2, c2', rfl, g1, hk2, g3⟩; (first | (have h2A := NatK.old h2 g3; have hbB := hbA.trans (g3.mono hbA.size)) | (have hbB := hWd.trans (g3.mono hWd.size)))))
    all_goals go_wp2_with fail
    all_goals go_meet
    all_goals first | (with_reducible exact CutXY.mk h1 h2A g1 hk2 hbB) | (with_reducible exact CutXY.mk h1 h2 g1 h2B hbA)
  case rest =>
    obtain ⟨A1, c1', A2, c2', rfl, rfl, n1, n2, hbc⟩ := hcut
    have HPL := Lib.hid (fun (V : World) (hV : Below wc.heap.size wc V) => RPlus_any A1 A2 c1' c2' wc.heap.size (dig (val ds)) (dig (val es)) V hV.size (n1.below hV) (n2.below hV) HL1.out HL2.out)
    unfold NatResK at HPL
    rw [val_dig, val_dig] at HPL
    have d0 : wc.cell? ⟨w.heap.size, 0, none⟩ = some (.bool ng) := (hbc.cell l0).trans (k0.cell 0)
    have d1 : wc.cell? ⟨w.heap.size + 1, 0, none⟩ = some (.bool ng') := (hbc.cell l1).trans (k1.cell 0)
    have z0 := Nat.lt_of_lt_of_le l0 hbc.size
    have z1 := Nat.lt_of_lt_of_le l1 hbc.size
    have kr := k2.old hbc
    have hbw := hb0.trans (hbc.mono hb0.size)
    have N1 := Lib.hid n1; have N2 := Lib.hid n2
    clear c1 c3 l0 l1 l2 hWd hWw KF KB k0 k1 k2 hbc n1 n2 HT1 HT2 hb0
    generalize hsm : val ds + val es = sm at *
    have HLE := Lib.hid (fun (V : World) (hV : Below wc.heap.size wc V) => RLess_any A1 A2 c1' c2' V.heap.size (val ds) (val es) V ((N1.out.below hV).more hV.size) ((N2.out.below hV).more hV.size) (by have := HL1.out; omega))
    have HMI := Lib.hid (fun (hh : val es ≤ val ds) (V : World) (hV : Below wc.heap.size wc V) => RMinus_any A1 A2 c1' c2' wc.heap.size (dig (val ds)) (dig (val es)) V hV.size (N1.out.below hV) (N2.out.below hV) HL1.out (by
      rcases Nat.lt_or_ge (dig (val ds)).length (dig (val es)).length with h | h
      · have := dig_len_mono h; omega
      · exact h) (by rw [val_dig, val_dig]; exact hh))
    have HMJ := Lib.hid (fun (hh : val ds < val es) (V : World) (hV : Below wc.heap.size wc V) => RMinus_any A2 A1 c2' c1' wc.heap.size (dig (val es)) (dig (val ds)) V hV.size (N2.out.below hV) (N1.out.below hV) HL2.out (by
      rcases Nat.lt_or_ge (dig (val es)).length (dig (val ds)).length with h | h
      · have := dig_len_mono h; omega
      · exact h) (by rw [val_dig, val_dig]; omega))
    unfold NatResK at HMI HMJ
    rw [val_dig, val_dig] at HMI HMJ
    generalize (dig (val ds)).length = l1 at *
    generalize (dig (val es)).length = l2 at *
    obtain ⟨Z, hZ⟩ : ∃ Z, Z = wc := ⟨_, rfl⟩
    subst hZ
    have hZd : Below Z.heap.size Z Z.drew := (Drawn.drew _).below _
    have hZw : Below Z.heap.size Z Z := Below.refl _ _
    have hZa : Below Z.heap.size Z (Z.alloc (.cells #[.bool false, .slice none 0 0] 43)).drew := (hZw.alloc (Nat.le_refl _) _).trans ((Drawn.drew _).below _)
    have KF := Lib.hid (fun (V : World) (hV : Below Z.heap.size Z V) => show Below Z.heap.size Z V ∧ V.cell? ⟨w.heap.size, 0, none⟩ = some (.bool ng) from ⟨hV, (hV.cell z0).trans d0⟩)
    go_wp2_with fail
    go_cut [7] (fun v wc => OutAt Z ng sm v wc)
    case first =>
      go_region_held3 (fun w' => Below Z.heap.size Z w' ∧ w'.cell? ⟨w.heap.size, 0, none⟩ = some (.bool ng))
        ((refine KF.out _ ?_; repeat (first | (with_reducible exact hZd) | (with_reducible exact hZw) | (with_reducible exact hZa) | (with_reducible exact hb1) | (with_reducible refine Below.drew ?_) | ((with_reducible refine Below.alloc ?_ ?_ _); rotate_left; (first | exact Nat.le_refl _ | exact s1 | (simp; omega))) | ((with_reducible refine Below.setCell ?_ ?_ _); rotate_left; (first | exact Nat.le_refl _ | exact s1 | (simp; omega))))))
        ((go_at_call 51; (first | (with_reducible refine (HPL.out _ hZd).mono ?_) | (with_reducible refine (HPL.out _ hZa).mono ?_)); rintro e w1 ⟨A3, c3, rfl, h1, h2, h3⟩; (first | (have hb1 := hZd.trans (h3.mono hZd.size)) | (have hb1 := hZa.trans (h3.mono hZa.size); have p1 := Blk.old (show Blk (Z.alloc (.cells #[.bool false, .slice none 0 0] 43)).drew Z.heap.size 43 #[.bool false, .slice none 0 0] from Blk.new Z _ _) h3; have e0 : w1.cell? ⟨Z.heap.size, 0, none⟩ = some (.bool false) := p1.cell 0; have e1 : w1.cell? ⟨Z.heap.size, 1, none⟩ = some (.slice none 0 0) := p1.cell 1; have f0 := p1.frozen 0; have f1 := p1.frozen 1; have z9 := p1.lt)); have s1 := hb1.size))
      all_goals go_wp2_with fail
      all_goals go_meet
      all_goals first | (with_reducible exact OutAt.a h1 h2 hb1) | (with_reducible exact OutAt.b h1 h2 hb1 (Nat.le_refl _) p1 rfl)
    case rest =>
      obtain ⟨g, A3, c3, rfl, kg, h1, h2, hbz, hgz⟩ := hcut
      have e2 : wc.cell? ⟨w.heap.size, 0, none⟩ = some (.bool ng) := (hbz.cell z0).trans d0
      have e3 : wc.cell? ⟨w.heap.size + 1, 0, none⟩ = some (.bool ng') := (hbz.cell z1).trans d1
      have y0 := Nat.lt_of_lt_of_le z0 hbz.size
      have y1 := Nat.lt_of_lt_of_le z1 hbz.size
      have y3 := kg.lt
      have HLE' := Lib.hid (HLE.out wc hbz)
      clear KF hZd hZw hZa HPL hsm HLE h1 h2
      by_cases hlt : val ds < val es
      · have HD := Lib.hid (show decide (val ds < val es) = true by simpa using hlt)
        have HE := Lib.hid (HLT.out hlt)
        have HM := Lib.hid (HMJ.out hlt)
        generalize hsb : val es - val ds = sb at *
        have HSM' := Lib.hid hsb
        rw [HD.out] at HLE'
        clear HMI HMJ hlt hsb HGE HLT
        go_wp2_with fail
        refine HLE'.out.mono ?_
        rintro e wd ⟨rfl, hdr⟩
        have kg' := kg.drawn hdr
        have hbz' := hbz.trans (hdr.below _)
        have x2 : wd.cell? ⟨w.heap.size, 0, none⟩ = some (.bool ng) := (hdr.cell _).trans e2
        have x3 : wd.cell? ⟨w.heap.size + 1, 0, none⟩ = some (.bool ng') := (hdr.cell _).trans e3
        have x4 := kg'.lt
        have x0 : w.heap.size < wd.heap.size := by rw [hdr.heap]; exact y0
        have x1 : w.heap.size + 1 < wd.heap.size := by rw [hdr.heap]; exact y1
        clear kg hbz e2 e3 y0 y1 y3 hdr HLE'
        go_wp2_with fail
        have hWd : Below wd.heap.size wd wd.drew := (Drawn.drew _).below _
        have hZd := hbz'.trans ((Drawn.drew wd).below _)
        have hWw : Below wd.heap.size wd wd := Below.refl _ _
        have KF := Lib.hid (fun (V : World) (hV : Below Z.heap.size Z V) => show Below Z.heap.size Z V ∧ V.cell? ⟨w.heap.size + 1, 0, none⟩ = some (.bool ng') from ⟨hV, (hV.cell z1).trans d1⟩)
        go_region_held3 (fun w' => Below Z.heap.size Z w' ∧ w'.cell? ⟨w.heap.size + 1, 0, none⟩ = some (.bool ng'))
          ((refine KF.out _ ?_; first | (with_reducible exact hZd) | (with_reducible exact hbz') | (with_reducible exact hbz1) | (with_reducible exact hbz3)))
          ((go_at_call 52; (with_reducible refine (HM.out _ hZd).mono ?_); rintro e w1 ⟨A4, c4, rfl, h1, h2, h3⟩; have hbz1 := hZd.trans (h3.mono hZd.size); have hbz3 := (hbz1.setCell (p := ⟨g, 0, none⟩) hgz (.bool ng')).setCell (p := ⟨g, 1, none⟩) hgz (.slice A4 (dig sb).length c4); have hb1 := hWd.trans (h3.mono hWd.size); have p1 := Blk.old (show Blk wd.drew g 43 _ from kg') h3; have e0 : w1.cell? ⟨g, 0, none⟩ = some (.bool ng) := p1.cell 0; have e1 : w1.cell? ⟨g, 1, none⟩ = some (.slice A3 (dig sm).length c3) := p1.cell 1; have f0 := p1.frozen 0; have f1 := p1.frozen 1; have z9 := p1.lt; have s1 := hb1.size))
        have hfin := OutAt.b (Z := Z) (ng := ng') (g := g) h1 h2 (hZd.trans (h3.mono hZd.size)) hgz p1 rfl
        generalize (w1.setCell ⟨g, 0, none⟩ (.bool ng')).setCell ⟨g, 1, none⟩ (.slice A4 (dig sb).length c4) = wc at *
        clear kg' hbz' x0 x1 x2 x3 x4 hWd hZd hWw KF HM h1 h2 h3 hb1 hbz1 hbz3 p1 e0 e1 f0 f1 z9 s1
        obtain ⟨g5, A3, c3, hg5, kg, h1, h2, hbz, hgz⟩ := hfin
        injection hg5 with hg5
        injection hg5 with hg5
        injection hg5 with hg5
        subst hg5
        have kq := kr.old hbz
        have e0 : wc.cell? ⟨g, 0, none⟩ = some (.bool ng') := kg.cell 0
        have e1 : wc.cell? ⟨g, 1, none⟩ = some (.slice A3 (dig sb).length c3) := kg.cell 1
        have e2 : wc.cell? ⟨w.heap.size, 0, none⟩ = some (.bool ng) := (hbz.cell z0).trans d0
        have e3 : wc.cell? ⟨w.heap.size + 1, 0, none⟩ = some (.bool ng') := (hbz.cell z1).trans d1
        have q0 : wc.cell? ⟨w.heap.size + 2, 0, none⟩ = some (.bool false) := kq.cell 0
        have q1 : wc.cell? ⟨w.heap.size + 2, 1, none⟩ = some (.slice none 0 0) := kq.cell 1
        have f0 := kq.frozen 0; have f1 := kq.frozen 1
        have y0 := Nat.lt_of_lt_of_le z0 hbz.size
        have y1 := Nat.lt_of_lt_of_le z1 hbz.size
        have y2 := kq.lt; have y3 := kg.lt
        have hbw' := hbw.trans (hbz.mono hbw.size)
        clear d0 d1 z0 z1 kr hbw hbz
        by_cases h0 : (dig sb).length = 0
        · have h0b : (((dig sb).length : Int) == 0) = true := by simp [h0]
          have HSZ := Lib.hid (dig_len0.1 h0)
          clear h0
          go_wp2_with fail
          have hz : (ival ng ds + ival ng' es).natAbs = 0 := by rw [HE.out.1, HSZ.out]
          exact ret_blk Tryz.results31 rfl rfl ((kq.set_ 0 _).set_ 1 _) Tryz.underlying43 rfl Tryz.sizeInt ⟨none, 0, by rw [show ival ng ds + ival ng' es = 0 by omega]; simp [dig_zero], by rw [hz, dig_zero]; exact Nat.le_refl _, by rw [hz, dig_zero]; exact .inl rfl, (hbw'.setCell (Nat.le_add_right _ 2) _).setCell (Nat.le_add_right _ 2) _⟩
        · have h0b : (((dig sb).length : Int) == 0) = false := by simpa using h0
          have H0 := Lib.hid h0
          clear h0
          go_wp2_with fail
          exact ret_blk Tryz.results31 rfl rfl ((kq.set_ 0 _).set_ 1 _) Tryz.underlying43 rfl Tryz.sizeInt ⟨A3, c3, by rw [HE.out.1, HE.out.2, show decide (0 < (dig sb).length) = true by have := H0.out; simp; omega, Bool.and_true]; rfl, by rw [HE.out.1]; exact h1, by rw [HE.out.1]; exact h2.two kq (by decide) _ _, (hbw'.setCell (Nat.le_add_right _ 2) _).setCell (Nat.le_add_right _ 2) _⟩
      · have HD := Lib.hid (show decide (val ds < val es) = false by simp; omega)
        have HE := Lib.hid (HGE.out (by omega))
        have HM := Lib.hid (HMI.out (by omega))
        generalize hsb : val ds - val es = sb at *
        have HSM' := Lib.hid hsb
        rw [HD.out] at HLE'
        clear HMI HMJ hlt hsb HGE HLT
        go_wp2_with fail
        refine HLE'.out.mono ?_
        rintro e wd ⟨rfl, hdr⟩
        have kg' := kg.drawn hdr
        have hbz' := hbz.trans (hdr.below _)
        have x2 : wd.cell? ⟨w.heap.size, 0, none⟩ = some (.bool ng) := (hdr.cell _).trans e2
        have x3 : wd.cell? ⟨w.heap.size + 1, 0, none⟩ = some (.bool ng') := (hdr.cell _).trans e3
        have x4 := kg'.lt
        have x0 : w.heap.size < wd.heap.size := by rw [hdr.heap]; exact y0
        have x1 : w.heap.size + 1 < wd.heap.size := by rw [hdr.heap]; exact y1
        clear kg hbz e2 e3 y0 y1 y3 hdr HLE'
        go_wp2_with fail
        have hWd : Below wd.heap.size wd wd.drew := (Drawn.drew _).below _
        have hZd := hbz'.trans ((Drawn.drew wd).below _)
        have hWw : Below wd.heap.size wd wd := Below.refl _ _
        have KF := Lib.hid (fun (V : World) (hV : Below Z.heap.size Z V) => show Below Z.heap.size Z V ∧ V.cell? ⟨w.heap.size, 0, none⟩ = some (.bool ng) from ⟨hV, (hV.cell z0).trans d0⟩)
        go_region_held3 (fun w' => Below Z.heap.size Z w' ∧ w'.cell? ⟨w.heap.size, 0, none⟩ = some (.bool ng))
          ((refine KF.out _ ?_; first | (with_reducible exact hZd) | (with_reducible exact hbz') | (with_reducible exact hbz1) | (with_reducible exact hbz3)))
          ((go_at_call 52; (with_reducible refine (HM.out _ hZd).mono ?_); rintro e w1 ⟨A4, c4, rfl, h1, h2, h3⟩; have hbz1 := hZd.trans (h3.mono hZd.size); have hbz3 := (hbz1.setCell (p := ⟨g, 0, none⟩) hgz (.bool ng)).setCell (p := ⟨g, 1, none⟩) hgz (.slice A4 (dig sb).length c4); have hb1 := hWd.trans (h3.mono hWd.size); have p1 := Blk.old (show Blk wd.drew g 43 _ from kg') h3; have e0 : w1.cell? ⟨g, 0, none⟩ = some (.bool ng) := p1.cell 0; have e1 : w1.cell? ⟨g, 1, none⟩ = some (.slice A3 (dig sm).length c3) := p1.cell 1; have f0 := p1.frozen 0; have f1 := p1.frozen 1; have z9 := p1.lt; have s1 := hb1.size))
        have hfin := OutAt.b (Z := Z) (ng := ng) (g := g) h1 h2 (hZd.trans (h3.mono hZd.size)) hgz p1 rfl
        generalize (w1.setCell ⟨g, 0, none⟩ (.bool ng)).setCell ⟨g, 1, none⟩ (.slice A4 (dig sb).length c4) = wc at *
        clear kg' hbz' x0 x1 x2 x3 x4 hWd hZd hWw KF HM h1 h2 h3 hb1 hbz1 hbz3 p1 e0 e1 f0 f1 z9 s1
        obtain ⟨g5, A3, c3, hg5, kg, h1, h2, hbz, hgz⟩ := hfin
        injection hg5 with hg5
        injection hg5 with hg5
        injection hg5 with hg5
        subst hg5
        have kq := kr.old hbz
        have e0 : wc.cell? ⟨g, 0, none⟩ = some (.bool ng) := kg.cell 0
        have e1 : wc.cell? ⟨g, 1, none⟩ = some (.slice A3 (dig sb).length c3) := kg.cell 1
        have e2 : wc.cell? ⟨w.heap.size, 0, none⟩ = some (.bool ng) := (hbz.cell z0).trans d0
        have e3 : wc.cell? ⟨w.heap.size + 1, 0, none⟩ = some (.bool ng') := (hbz.cell z1).trans d1
        have q0 : wc.cell? ⟨w.heap.size + 2, 0, none⟩ = some (.bool false) := kq.cell 0
        have q1 : wc.cell? ⟨w.heap.size + 2, 1, none⟩ = some (.slice none 0 0) := kq.cell 1
        have f0 := kq.frozen 0; have f1 := kq.frozen 1
        have y0 := Nat.lt_of_lt_of_le z0 hbz.size
        have y1 := Nat.lt_of_lt_of_le z1 hbz.size
        have y2 := kq.lt; have y3 := kg.lt
        have hbw' := hbw.trans (hbz.mono hbw.size)
        clear d0 d1 z0 z1 kr hbw hbz
        by_cases h0 : (dig sb).length = 0
        · have h0b : (((dig sb).length : Int) == 0) = true := by simp [h0]
          have HSZ := Lib.hid (dig_len0.1 h0)
          clear h0
          go_wp2_with fail
          have hz : (ival ng ds + ival ng' es).natAbs = 0 := by rw [HE.out.1, HSZ.out]
          exact ret_blk Tryz.results31 rfl rfl ((kq.set_ 0 _).set_ 1 _) Tryz.underlying43 rfl Tryz.sizeInt ⟨none, 0, by rw [show ival ng ds + ival ng' es = 0 by omega]; simp [dig_zero], by rw [hz, dig_zero]; exact Nat.le_refl _, by rw [hz, dig_zero]; exact .inl rfl, (hbw'.setCell (Nat.le_add_right _ 2) _).setCell (Nat.le_add_right _ 2) _⟩
        · have h0b : (((dig sb).length : Int) == 0) = false := by simpa using h0
          have H0 := Lib.hid h0
          clear h0
          go_wp2_with fail
          exact ret_blk Tryz.results31 rfl rfl ((kq.set_ 0 _).set_ 1 _) Tryz.underlying43 rfl Tryz.sizeInt ⟨A3, c3, by rw [HE.out.1, HE.out.2, show decide (0 < (dig sb).length) = true by have := H0.out; simp; omega, Bool.and_true]; rfl, by rw [HE.out.1]; exact h1, by rw [HE.out.1]; exact h2.two kq (by decide) _ _, (hbw'.setCell (Nat.le_add_right _ 2) _).setCell (Nat.le_add_right _ 2) _⟩
end Go.Proofs.YtnghlhcekghciaaGreatDoor
