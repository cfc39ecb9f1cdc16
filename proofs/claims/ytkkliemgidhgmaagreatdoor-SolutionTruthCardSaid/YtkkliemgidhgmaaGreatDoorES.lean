/- Contracts of evaluate.At and what it calls. -/
import Derived.IntWalk
import Derived.Deep.RegionHeld3
import Derived.Test.YtkkliemgidhgmaaGreatDoorER
import Derived.Test.YtkkliemgidhgmaaGreatDoorEE
import Derived.Test.YtkkliemgidhgmaaGreatDoorQL
import Derived.Test.YtkkliemgidhgmaaGreatDoorBB
namespace Go.Proofs.YtkkliemgidhgmaaGreatDoor
open Go.RowKit

/-- the numbers of a point -/
def PtAt (w : World) (B : Nat) (X : Option Addr) (xs : List Rat) : Prop :=
  ∀ i a, xs[i]? = some a → ∃ b o Ax cx Dx ex, X = some ⟨b, o, none⟩ ∧ b < B ∧ w.cell? ⟨b, o + i * 3, none⟩ = some (.bool (decide (a.num < 0))) ∧ w.cell? ⟨b, o + i * 3 + 1, none⟩ = some (.slice Ax (dig a.num.natAbs).length cx) ∧ w.cell? ⟨b, o + i * 3 + 2, none⟩ = some (.slice Dx (dig a.den).length ex) ∧ QIn w B a Ax cx Dx ex
theorem PtAt.below {w w' : World} {B : Nat} {X : Option Addr} {xs : List Rat} (h : PtAt w B X xs) (hb : Below B w w') : PtAt w' B X xs := fun i a ha => by
  obtain ⟨b, o, Ax, cx, Dx, ex, h1, h2, h3, h4, h5, h6⟩ := h i a ha
  exact ⟨b, o, Ax, cx, Dx, ex, h1, h2, (hb.cell (p := ⟨b, o + i * 3, none⟩) h2).trans h3, (hb.cell (p := ⟨b, o + i * 3 + 1, none⟩) h2).trans h4, (hb.cell (p := ⟨b, o + i * 3 + 2, none⟩) h2).trans h5, h6.below hb⟩
theorem PtAt.more {w : World} {B B' : Nat} {X : Option Addr} {xs : List Rat} (h : PtAt w B X xs) (hB : B ≤ B') : PtAt w B' X xs := fun i a ha => by
  obtain ⟨b, o, Ax, cx, Dx, ex, h1, h2, h3, h4, h5, h6⟩ := h i a ha
  exact ⟨b, o, Ax, cx, Dx, ex, h1, by omega, h3, h4, h5, h6.more hB⟩
theorem hor_var (a : Rat) (i : Int) : hor a (varT i).ks = a := by
  show (((0 : Rat) * a + ((ival false [1] : Int) : Rat)) * a) + ((ival false [] : Int) : Rat) = a
  have e1 : (ival false [1] : Int) = 1 := by decide
  have e0 : (ival false [] : Int) = 0 := by decide
  rw [e1, e0, Rat.zero_mul, Rat.zero_add]
  show (1 : Rat) * a + (0 : Rat) = a
  rw [Rat.one_mul, Rat.add_zero]
theorem sm_zero : Sm 0 := by unfold Sm; decide +kernel
theorem sm_one : Sm 1 := by unfold Sm; decide +kernel
theorem Eval_var (i : Nat) (hi4 : i < 4) (a : Rat) (ha : Sm a) (A : Option Addr) (c : Nat) (K : Option Addr) (kc n xc B bx ox : Nat) (Ax : Option Addr) (cx : Nat) (Dx : Option Addr) (ex : Nat) (w : World) (hB : B ≤ w.heap.size)
    (h : RV w (· < B) (varT ((i : Int) + 1)) (rcell (varT ((i : Int) + 1)) A c K kc)) (hin : i < n) (hnx : n ≤ xc) (hbx : bx < B) (hx0 : w.cell? ⟨bx, ox + i * 3, none⟩ = some (.bool (decide (a.num < 0)))) (hx1 : w.cell? ⟨bx, ox + i * 3 + 1, none⟩ = some (.slice Ax (dig a.num.natAbs).length cx)) (hx2 : w.cell? ⟨bx, ox + i * 3 + 2, none⟩ = some (.slice Dx (dig a.den).length ex)) (hq : QIn w B a Ax cx Dx ex) :
    Calls Tryz.prog 34 #[rval (varT ((i : Int) + 1)) A c K kc, .slice (some ⟨bx, ox, none⟩) n xc] w (RatRes a w) := by
  have h1 := Eval_lin (varT ((i : Int) + 1)) i rfl hi4 (fun u hu => ?_) (by show 2 ≤ 1000; omega) a ha (fun j => ?_) A c K kc n xc B bx ox Ax cx Dx ex w hB h hin hnx hbx hx0 hx1 hx2 hq
  · rw [hor_var] at h1
    exact h1
  · have hu : u ∈ [zeroT, oneT] := hu
    simp at hu
    rcases hu with rfl | rfl
    · exact ⟨Int.le_refl _, by decide, sm_zero⟩
    · exact ⟨Int.le_refl _, by decide, sm_one⟩
  · have e1 : (ival false [1] : Int) = 1 := by decide
    have e0 : (ival false [] : Int) = 0 := by decide
    have q2 : hor a ([] : List RP) = 0 := rfl
    have q1 : hor a [oneT] = 1 := by
      show (0 : Rat) * a + ((ival false [1] : Int) : Rat) = 1
      rw [e1, Rat.zero_mul, Rat.zero_add]
      rfl
    have q0 : hor a [zeroT, oneT] = a := hor_var a 0
    match j with
    | 0 => exact ⟨by show Sm (hor a [oneT]); rw [q1]; exact sm_one, by show Sm (hor a [oneT] * a); rw [q1, Rat.one_mul]; exact ha⟩
    | j + 1 =>
      have e : (varT ((i : Int) + 1)).ks.drop (j + 1 + 1) = [] := List.drop_of_length_le (by show 2 ≤ j + 1 + 1; omega)
      rw [e, q2, Rat.zero_mul]
      exact ⟨sm_zero, sm_zero⟩
set_option maxHeartbeats 1000000 in
set_option maxRecDepth 100000 in
/-- the closure: the sign of a variable at the point -/
theorem At1_any (i : Nat) (hi4 : i < 4) (xs : List Rat) (a : Rat) (hxa : xs[i]? = some a) (ha : Sm a) (A : Option Addr) (c : Nat) (K : Option Addr) (kc : Nat) (X : Option Addr) (xc B gx : Nat) (w : World) (hB : B ≤ w.heap.size) (hnx : xs.length ≤ xc)
    (h : RV w (· < B) (varT ((i : Int) + 1)) (rcell (varT ((i : Int) + 1)) A c K kc)) (hx : PtAt w B X xs) (hg : w.cell? ⟨gx, 0, none⟩ = some (.slice X xs.length xc)) (hgl : gx < w.heap.size) :
    Calls Tryz.prog 32 #[rval (varT ((i : Int) + 1)) A c K kc, .pointer (some ⟨gx, 0, none⟩)] w fun e w' => e = .returned (.int .i64 (sgnOf a.num)) ∧ Below w.heap.size w w' := by
  have hb0 := (Below.refl w.heap.size w).alloc (Nat.le_refl _) (.cells #[.int .i64 (varT ((i : Int) + 1)).lv, .bool (varT ((i : Int) + 1)).ng, .slice A (varT ((i : Int) + 1)).ds.length c, .slice K (varT ((i : Int) + 1)).ks.length kc] 32)
  obtain ⟨b, o, Ax, cx, Dx, ex, rfl, h2, h3, h4, h5, h6⟩ := (hx.below (hb0.mono hB)) i a hxa
  have HE := Lib.hid (Eval_var i hi4 a ha A c K kc xs.length xc B b o Ax cx Dx ex _ (Nat.le_trans hB hb0.size) (h.below (hb0.mono hB)) (List.getElem?_eq_some_iff.1 hxa).1 hnx h2 h3 h4 h5 h6)
  have cg := (hb0.cell (p := ⟨gx, 0, none⟩) hgl).trans hg
  have HB0 := Lib.hid hb0
  have HS := Lib.hid (fun (W : World) (A : Option Addr) (c : Nat) (D : Option Addr) (cd : Nat) (k1 : (dig a.num.natAbs).length ≤ c) (k2 : (dig a.den).length ≤ cd) (n1 : NatB W A (dig a.num.natAbs)) (n2 : NatB W D (dig a.den)) => RSign_any (decide (a.num < 0)) A c W.heap.size _ D cd _ W (Nat.le_refl _) (natB_nin n1 k1) (natB_nin n2 k2) (by have := ha.1; omega) (by have := ha.2; omega))
  rw [q_self] at HS
  unfold RatRes at HE
  unfold rval at HE ⊢
  generalize (varT ((i : Int) + 1)).lv = lv at *
  generalize (varT ((i : Int) + 1)).ng = ng at *
  generalize (varT ((i : Int) + 1)).ds.length = dl at *
  generalize (varT ((i : Int) + 1)).ks.length = kl at *
  generalize xs.length = n at *
  clear hb0 h hx h2 h3 h4 h5 h6 hxa ha hB hg
  go_enter Tryz.func32, Tryz.ntmps32
  go_wp2_with fail
  refine HE.out.mono ?_
  rintro e w1 ⟨A1, c1, D1, d1, rfl, l1, l2, n1, n2, hb1⟩
  have HB1 := Lib.hid (HB0.out.trans (hb1.mono HB0.out.size))
  have HSG := Lib.hid (HS.out w1 A1 c1 D1 d1 l1 l2 n1 n2)
  clear hb1 l1 l2 n1 n2 cg HS HE
  go_wp2_with fail
  refine HSG.out.mono ?_
  rintro e w2 ⟨rfl, hb2⟩
  have HB2 := Lib.hid (HB1.out.trans (hb2.mono HB1.out.size))
  clear hb2
  go_wp2_with fail
  go_ret
  exact ⟨rfl, HB2.out⟩
end Go.Proofs.YtkkliemgidhgmaaGreatDoor

/- Plain laws of the truth at a point; contract of evaluate.At at the matrix of variables. -/
namespace Go.Proofs.YtkkliemgidhgmaaGreatDoor
open Go.RowKit

theorem varT_nrm {i : Int} (h1 : 1 ≤ i) (h4 : i ≤ 4) : nrT (varT i) = varT i := by
  have h0 : i ≠ 0 := by omega
  rw [nrT_eq (T := varT i) (.inl ⟨varT_can h1 h4, rfl⟩)]
  have z1 : cpT zeroT = zeroT := by
    unfold zeroT
    simp only [cpT, if_true]
    rw [show val [] = 0 from rfl, dig_zero, show decide (ival false [] < 0) = false from by decide]
  have z2 : cpT oneT = oneT := by
    unfold oneT
    simp only [cpT, if_true]
    rw [show val [1] = 1 from by decide, dig_one, show decide (ival false [1] < 0) = false from by decide]
  unfold varT
  simp only [cpT, cpL]
  rw [if_neg h0, z1, z2]
/-- the sign at a point -/
def sgP (xs : List Rat) (p : RP) : Int := sgnOf (xs.getD (p.lv - 1).toNat 0).num
def IsV (n : Nat) (p : RP) : Prop := ∃ i, i < n ∧ p = varT ((i : Int) + 1)
theorem atom_cases {n : Nat} (hn : n ≤ 4) {t : List Int} {a : MX} (h : a ∈ atms (varsT n) t) : a = zeroM ∨ ∃ s p, IsV n p ∧ a = .mk 2 (relN s) p [] := by
  obtain ⟨p, hp, s, ha⟩ := atms_mem _ _ _ h
  obtain ⟨j, hj, rfl⟩ := List.mem_map.1 hp
  rw [List.mem_range] at hj
  unfold atm at ha
  by_cases h7 : s = 7
  · rw [if_pos h7] at ha; simp at ha
  · rw [if_neg h7] at ha
    by_cases h0 : s = 0
    · rw [if_pos h0] at ha; simp at ha; exact .inl ha
    · rw [if_neg h0] at ha
      simp at ha
      rw [varT_nrm (by omega) (by omega)] at ha
      exact .inr ⟨s, _, ⟨j, hj, rfl⟩, ha⟩
theorem vars_gd {n : Nat} (hn : n ≤ 4) {ts : List (List Int)} (hts : ts.length ≤ 90) (hok : TermsOk n ts) : GdM (IsV n) (orM (varsT n) ts) ∧ PrM 2 (orM (varsT n) ts) ∧ levM (orM (varsT n) ts) ≤ (n : Int) := by
  have zz : depT zeroT ≤ 12 ∧ FewT 2 zeroT ∧ cntT zeroT ≤ 1000 := by unfold zeroT; refine ⟨by simp [depT, depL], by simp [FewT, FewL], by simp [cntT, cntL]⟩
  have al : ∀ t ∈ ts, (atms (varsT n) t).length ≤ 1000000 := fun t ht => Nat.le_trans (atms_len _ _) (by rw [(hok t ht).1]; omega)
  have hat : ∀ t ∈ ts, ∀ a ∈ atms (varsT n) t, GdM (IsV n) a ∧ PrM 2 a ∧ levM a ≤ (n : Int) := fun t _ a ha => by
    rcases atom_cases hn ha with rfl | ⟨s, p, hp, rfl⟩
    · unfold zeroM
      refine ⟨by simp [GdM, GdL], by simp [PrM, PrL]; exact zz, by simp [levM]⟩
    · obtain ⟨i, hi, rfl⟩ := hp
      have hv := vars_few (n := n) _ (List.mem_map.2 ⟨i, List.mem_range.2 hi, rfl⟩)
      refine ⟨?_, ?_, ?_⟩
      · simp only [GdM, GdL]; exact ⟨fun _ => ⟨i, hi, rfl⟩, by simp, trivial⟩
      · simp only [PrM, PrL]; exact ⟨by omega, by omega, hv.1, hv.2.1, hv.2.2, by simp, trivial⟩
      · simp only [levM, if_true]
        rw [varT_nrm (by omega) (by omega)]
        show (i : Int) + 1 ≤ n
        omega
  have lle : ∀ (l : List MX) (a : Int), a ≤ (n : Int) → (∀ t ∈ l, levM t ≤ (n : Int)) → levL a l ≤ (n : Int) := by
    intro l
    induction l with
    | nil => intro a ha _; simpa [levL] using ha
    | cons t l ih =>
      intro a ha hl
      simp only [levL]
      exact ih _ (by have := hl t (by simp); omega) fun u hu => hl u (by simp [hu])
  have hand : ∀ t ∈ ts, GdM (IsV n) (andM (varsT n) t) ∧ PrM 2 (andM (varsT n) t) ∧ levM (andM (varsT n) t) ≤ (n : Int) := fun t ht => by
    unfold andM
    refine ⟨?_, ?_, ?_⟩
    · simp only [GdM]; exact ⟨fun h => absurd h (by decide), al t ht, GdL.mem.2 fun a ha => (hat t ht a ha).1⟩
    · simp only [PrM]; exact ⟨by omega, by omega, zz.1, zz.2.1, zz.2.2, al t ht, PrL.mem.2 fun a ha => (hat t ht a ha).2.1⟩
    · simp only [levM]
      rw [if_neg (by decide), if_pos (by simp)]
      exact lle _ _ (by omega) fun a ha => (hat t ht a ha).2.2
  unfold orM
  refine ⟨?_, ?_, ?_⟩
  · simp only [GdM]
    exact ⟨fun h => absurd h (by decide), by rw [List.length_map]; omega, GdL.mem.2 fun a ha => by obtain ⟨t, ht, rfl⟩ := List.mem_map.1 ha; exact (hand t ht).1⟩
  · simp only [PrM]
    exact ⟨by omega, by omega, zz.1, zz.2.1, zz.2.2, by rw [List.length_map]; omega, PrL.mem.2 fun a ha => by obtain ⟨t, ht, rfl⟩ := List.mem_map.1 ha; exact (hand t ht).2.1⟩
  · simp only [levM]
    rw [if_neg (by decide), if_pos (by simp)]
    exact lle _ _ (by omega) fun a ha => by obtain ⟨t, ht, rfl⟩ := List.mem_map.1 ha; exact (hand t ht).2.2
/-- the point of a row of signs -/
def ptOf (ss : List Int) : List Rat := ss.map fun s => ((3 * s : Int) : Rat)
theorem holds_meet {t s : Int} (h1 : 1 ≤ t) (h6 : t ≤ 6) (s1 : -1 ≤ s) (s2 : s ≤ 1) : holdsB (relN t) s = meet t s := by
  rcases (by omega : t = 1 ∨ t = 2 ∨ t = 3 ∨ t = 4 ∨ t = 5 ∨ t = 6) with rfl | rfl | rfl | rfl | rfl | rfl <;> rcases (by omega : s = -1 ∨ s = 0 ∨ s = 1) with rfl | rfl | rfl <;> decide +kernel
theorem meet_seven {s : Int} (s1 : -1 ≤ s) (s2 : s ≤ 1) : meet 7 s = true := by
  rcases (by omega : s = -1 ∨ s = 0 ∨ s = 1) with rfl | rfl | rfl <;> decide +kernel
theorem sg_three {s : Int} (s1 : -1 ≤ s) (s2 : s ≤ 1) : sgnOf (3 * s) = s := by
  rcases (by omega : s = -1 ∨ s = 0 ∨ s = 1) with rfl | rfl | rfl <;> decide
theorem and_true {n : Nat} (hn : n ≤ 4) {t ss : List Int} (hl : t.length = n) (hte : ∀ i, i < n → 1 ≤ t.getD i 0 ∧ t.getD i 0 ≤ 7) (hsl : ss.length = n) (hs : ∀ s ∈ ss, -1 ≤ s ∧ s ≤ 1) :
    ∀ k, k ≤ n → (atms (varsT n) (t.take k)).all (truM (sgP (ptOf ss))) = permTo t ss k
  | 0, _ => by simp [atms_nil, permTo]
  | k + 1, hk => by
    have h1 := getD_someB (l := t) (k := k) (by omega) 0
    have h2 := hte k (by omega)
    have hsk := getD_someB (l := ss) (k := k) (by omega) 0
    have h3 := hs _ (List.mem_of_getElem? hsk)
    rw [atms_take (varsT n) t k _ _ (varsT_at (by omega)) h1, List.all_append, and_true hn hl hte hsl hs k (by omega), permTo_succ]
    congr 1
    unfold atm
    by_cases h7 : t.getD k 0 = 7
    · rw [if_pos h7, h7, meet_seven h3.1 h3.2]; rfl
    · rw [if_neg h7, if_neg (by omega), varT_nrm (by omega) (by omega)]
      simp only [List.all_cons, List.all_nil, Bool.and_true, truM]
      rw [if_neg (by decide), if_pos trivial]
      have e : sgP (ptOf ss) (varT ((k : Int) + 1)) = ss.getD k 0 := by
        unfold sgP ptOf
        have e1 : ((varT ((k : Int) + 1)).lv - 1).toNat = k := by show ((k : Int) + 1 - 1).toNat = k; omega
        rw [e1, List.getD_eq_getElem?_getD, List.getElem?_map, hsk]
        simp only [Option.map_some, Option.getD_some]
        rw [Rat.num_intCast]
        exact sg_three h3.1 h3.2
      rw [e]
      exact holds_meet h2.1 (by omega) h3.1 h3.2
theorem row_truth {n : Nat} (hn : n ≤ 4) {rows : List (List Int × Bool)} {ts : List (List Int)} (hv : ValidP n rows) (hc : CoverOk n rows ts) {k : Nat} (hk : k < rows.length) : truM (sgP (ptOf (sg rows k))) (orM (varsT n) ts) = tr rows k := by
  obtain ⟨hl, hs⟩ := hv k hk
  have hok := cover_terms hc
  have hterm : ∀ t ∈ ts, truM (sgP (ptOf (sg rows k))) (andM (varsT n) t) = permTo t (sg rows k) n := fun t ht => by
    obtain ⟨h1, h2⟩ := hok t ht
    have h3 := and_true hn h1 h2 hl hs n (Nat.le_refl _)
    rw [List.take_of_length_le (by omega)] at h3
    rw [truM_eq]
    exact h3
  rw [truM_eq]
  show (ts.map (andM (varsT n))).any (truM (sgP (ptOf (sg rows k)))) = tr rows k
  cases htr : tr rows k
  · rw [List.any_eq_false]
    intro a ha
    obtain ⟨t, ht, rfl⟩ := List.mem_map.1 ha
    rw [hterm t ht, hc.no k hk htr t ht]
    decide
  · obtain ⟨t, ht, hp⟩ := hc.yes k hk htr
    exact List.any_eq_true.2 ⟨_, List.mem_map.2 ⟨t, ht, rfl⟩, by rw [hterm t ht]; exact hp⟩
set_option maxHeartbeats 4000000 in
set_option maxRecDepth 100000 in
theorem At_any (n : Nat) (hn : n ≤ 4) (ts : List (List Int)) (hts : ts.length ≤ 90) (hok : TermsOk n ts) (xs : List Rat) (hxl : xs.length = n) (hsm : ∀ a ∈ xs, Sm a) (A : Option Addr) (c : Nat) (K : Option Addr) (kc : Nat) (L : Option Addr) (lc : Nat) (X : Option Addr) (xc B : Nat) (w : World) (hB : B ≤ w.heap.size) (hnx : n ≤ xc)
    (h : MV w (· < B) (orM (varsT n) ts) (mcell (orM (varsT n) ts) A c K kc L lc)) (hx : PtAt w B X xs) :
    Calls Tryz.prog 18 #[mval (orM (varsT n) ts) A c K kc L lc, .slice X n xc] w fun e w' => e = .returned (.tuple #[.bool (truM (sgP xs) (orM (varsT n) ts)), .int .i64 0]) ∧ Below w.heap.size w w' := by
  obtain ⟨hgd, hpr, hlv⟩ := vars_gd hn hts hok
  obtain ⟨hb0, k0, k1, _⟩ := boxes2 w 35 48 #[.int .i64 (orM (varsT n) ts).kd, .int .i64 (orM (varsT n) ts).rl, .int .i64 (orM (varsT n) ts).p.lv, .bool (orM (varsT n) ts).p.ng, .slice A (orM (varsT n) ts).p.ds.length c, .slice K (orM (varsT n) ts).p.ks.length kc, .slice L (orM (varsT n) ts).ks.length lc] #[.slice X n xc]
  have HB0 := Lib.hid hb0; have HK0 := Lib.hid k0; have HK1 := Lib.hid k1
  have HLV := Lib.hid (fun (W : World) (hW : Below w.heap.size w W) => PLevel_any 2 (by omega) 3 _ MX.depth hpr A c K kc L lc B W (Nat.le_trans hB hW.size) (h.below (hW.mono hB)))
  have HT := Lib.hid (fun (W0 : World) (hW0 : Below w.heap.size w W0) (hkx : Blk W0 (w.heap.size + 1) 48 #[.slice X n xc]) => truth_any (sgP xs) (w.heap.size + 1) (IsV n) W0 (fun p hp A c K kc B2 W hW hB2 hrv => by
    obtain ⟨i, hi, rfl⟩ := hp
    have hkW := hkx.old hW
    have hxa : xs[i]? = some (xs.getD i 0) := getD_someB (by omega) 0
    have hxw : PtAt W B X xs := hx.below ((hW0.mono hB).trans (hW.mono (Nat.le_trans hB hW0.size)))
    have hc := At1_any i (by omega) xs _ hxa (hsm _ (List.mem_of_getElem? hxa)) A c K kc X xc W.heap.size (w.heap.size + 1) W (Nat.le_refl _) (by omega) (hrv.more hB2) (hxw.more (Nat.le_trans hB (Nat.le_trans hW0.size hW.size))) (by rw [hxl]; exact hkW.cell 0) hkW.lt
    have e : sgP xs (varT ((i : Int) + 1)) = sgnOf (xs.getD i 0).num := by
      unfold sgP
      rw [show ((varT ((i : Int) + 1)).lv - 1).toNat = i by show ((i : Int) + 1 - 1).toNat = i; omega]
    rw [e]
    exact hc) 3 _ MX.depth hgd A c K kc L lc B W0 (Below.refl _ _) (Nat.le_trans hB hW0.size) (h.below (hW0.mono hB)))
  unfold mval at HLV HT ⊢
  unfold clos at HT
  generalize levM (orM (varsT n) ts) = z at *
  generalize truM (sgP xs) (orM (varsT n) ts) = tv at *
  clear hb0 k0 k1 hgd hpr h hx hxl hsm hok hts hB
  generalize (orM (varsT n) ts).kd = kd at *
  generalize (orM (varsT n) ts).rl = rl at *
  generalize (orM (varsT n) ts).p.lv = pl at *
  generalize (orM (varsT n) ts).p.ng = pg at *
  generalize (orM (varsT n) ts).p.ds.length = pd at *
  generalize (orM (varsT n) ts).p.ks.length = pk at *
  generalize (orM (varsT n) ts).ks.length = nk at *
  go_enter Tryz.func18, Tryz.ntmps18
  go_wp2_with fail
  generalize (w.alloc (.cells #[.int .i64 kd, .int .i64 rl, .int .i64 pl, .bool pg, .slice A pd c, .slice K pk kc, .slice L nk lc] 35)).alloc (.cells #[.slice X n xc] 48) = W at *
  have KF := Lib.hid (fun (V : World) (hV : Below W.heap.size W V) => (⟨(HK0.out.old hV).cell 0, (HK0.out.old hV).cell 1, (HK0.out.old hV).cell 2, (HK0.out.old hV).cell 3, (HK0.out.old hV).cell 4, (HK0.out.old hV).cell 5, (HK0.out.old hV).cell 6, (HK1.out.old hV).cell 0⟩ :
    V.cell? ⟨w.heap.size, 0, none⟩ = some (.int .i64 kd) ∧ V.cell? ⟨w.heap.size, 1, none⟩ = some (.int .i64 rl) ∧ V.cell? ⟨w.heap.size, 2, none⟩ = some (.int .i64 pl) ∧ V.cell? ⟨w.heap.size, 3, none⟩ = some (.bool pg) ∧ V.cell? ⟨w.heap.size, 4, none⟩ = some (.slice A pd c) ∧ V.cell? ⟨w.heap.size, 5, none⟩ = some (.slice K pk kc) ∧ V.cell? ⟨w.heap.size, 6, none⟩ = some (.slice L nk lc) ∧ V.cell? ⟨w.heap.size + 1, 0, none⟩ = some (.slice X n xc)))
  have hb : Below W.heap.size W W.drew := (Drawn.drew _).below _
  have hb0 : Below W.heap.size W W := Below.refl _ _
  have HLW := Lib.hid (fun (V : World) (hV : Below W.heap.size W V) => HLV.out V (HB0.out.trans (hV.mono HB0.out.size)))
  go_region_held3 (fun w' => w'.cell? ⟨w.heap.size, 0, none⟩ = some (.int .i64 kd) ∧ w'.cell? ⟨w.heap.size, 1, none⟩ = some (.int .i64 rl) ∧ w'.cell? ⟨w.heap.size, 2, none⟩ = some (.int .i64 pl) ∧ w'.cell? ⟨w.heap.size, 3, none⟩ = some (.bool pg) ∧ w'.cell? ⟨w.heap.size, 4, none⟩ = some (.slice A pd c) ∧ w'.cell? ⟨w.heap.size, 5, none⟩ = some (.slice K pk kc) ∧ w'.cell? ⟨w.heap.size, 6, none⟩ = some (.slice L nk lc) ∧ w'.cell? ⟨w.heap.size + 1, 0, none⟩ = some (.slice X n xc))
    (first | (with_reducible exact KF.out _ hb) | (with_reducible exact KF.out _ hb0))
    (first
      | (go_at_call 30; (with_reducible refine (HLW.out _ hb).mono ?_); rintro e w4 ⟨rfl, hk⟩; replace hb := hb.trans (hk.mono hb.size)))
  all_goals
    obtain ⟨c0, c1, c2, c3, c4, c5, c6, c7⟩ := KF.out _ hb
    have HBW := Lib.hid (HB0.out.trans (hb.mono HB0.out.size))
    have HTW := Lib.hid (HT.out _ HBW.out (HK1.out.old hb))
    clear hb hb0
    go_wp2_with fail
    refine HTW.out.mono ?_
    rintro e w5 ⟨rfl, hb5⟩
    have HB5 := Lib.hid (HBW.out.trans (hb5.mono HBW.out.size))
    clear hb5
    go_wp2_with fail
    go_ret2
    exact ⟨rfl, HB5.out⟩
end Go.Proofs.YtkkliemgidhgmaaGreatDoor

/- A point made by appending; plain laws for SolutionTruth. -/
namespace Go.Proofs.YtkkliemgidhgmaaGreatDoor
open Go.RowKit

theorem Tryz.infoRat : (Tryz.prog.info? 53).map (fun i => (i.zero, i.size, i.bytes)) = some (some (.agg #[.bool false, .slice none 0 0, .slice none 0 0]), 3, 56) := by kernel_rfl
theorem flat3 : ∀ (rows : List (List Value)) (_ : ∀ r ∈ rows, r.length = 3) (i : Nat) (r : List Value) (_ : rows[i]? = some r) (j : Nat) (_ : j < 3), rows.flatten[i * 3 + j]? = r[j]?
  | [], _, i, r, h, _, _ => by simp at h
  | x :: rows, h3, 0, r, h, j, hj => by
    simp at h
    subst h
    have := h3 x List.mem_cons_self
    rw [List.flatten_cons, Nat.zero_mul, Nat.zero_add, List.getElem?_append_left (by omega)]
  | x :: rows, h3, i + 1, r, h, j, hj => by
    have h1 := h3 x List.mem_cons_self
    rw [List.flatten_cons, List.getElem?_append_right (by omega), h1, show (i + 1) * 3 + j - 3 = i * 3 + j by omega]
    exact flat3 rows (fun y hy => h3 y (List.mem_cons_of_mem _ hy)) i r (by simpa using h) j hj
/-- the cells of a number, made by calls -/
def QRow (w : World) (a : Rat) (r : List Value) : Prop := ∃ (A : Option Addr) (c : Nat) (D : Option Addr) (d : Nat), r = [.bool (decide (a.num < 0)), .slice A (dig a.num.natAbs).length c, .slice D (dig a.den).length d] ∧ (dig a.num.natAbs).length ≤ c ∧ (dig a.den).length ≤ d ∧ NatB w A (dig a.num.natAbs) ∧ NatB w D (dig a.den)
theorem QRow.keep {w w' : World} {a : Rat} {r : List Value} (h : QRow w a r) (hk : ∀ g cs, Blk w g 101 cs → Blk w' g 101 cs) : QRow w' a r := by
  obtain ⟨A, c, D, d, h1, h2, h3, h4, h5⟩ := h
  exact ⟨A, c, D, d, h1, h2, h3, h4.keep hk, h5.keep hk⟩
structure PtI (w W : World) (v : Value) (xs : List Rat) : Prop where
  bel : Below w.heap.size w W
  row : ∃ rows : List (List Value), W.ownsRow w.heap.size 53 3 v xs.length rows.flatten ∧ rows.length = xs.length ∧ (∀ r ∈ rows, r.length = 3) ∧ ∀ (i : Nat) (a : Rat), xs[i]? = some a → ∃ r, rows[i]? = some r ∧ QRow W a r
theorem PtI.start (w : World) : PtI w w (.slice none 0 0) [] := ⟨Below.refl _ _, [], ⟨rfl, .inl ⟨rfl, rfl⟩⟩, rfl, by simp, by simp⟩
theorem PtI.push {w W W1 W2 : World} {v v' : Value} {xs : List Rat} {rows : List (List Value)} {a : Rat} {us : List Value} (h : PtI w W v xs) (hr : W.ownsRow w.heap.size 53 3 v xs.length rows.flatten) (hl : rows.length = xs.length) (h3 : ∀ r ∈ rows, r.length = 3) (hm : ∀ (i : Nat) (a : Rat), xs[i]? = some a → ∃ r, rows[i]? = some r ∧ QRow W a r)
    (h1 : Below W.heap.size W W1) (hu : QRow W1 a us) (ho : W2.ownsRow w.heap.size 53 3 v' (xs.length + 1) (rows.flatten ++ us)) (hg : (W1.alloc (.cells us.toArray 53)).grownBy W2 v.ownBlock) : PtI w W2 v' (xs ++ [a]) := by
  have ha := (Below.refl W1.heap.size W1).alloc (Nat.le_refl _) (.cells us.toArray 53)
  have h2 := h1.trans (ha.mono h1.size)
  have hr1 := own_old hr h2
  have k1 : ∀ g cs, Blk W1 g 101 cs → Blk W2 g 101 cs := fun g cs k => (k.old ha).grown hg (own_blk_ne hr1 (k.old ha) (by decide))
  have hu3 : us.length = 3 := by obtain ⟨_, _, _, _, e, _⟩ := hu; rw [e]; rfl
  refine ⟨?_, rows ++ [us], by simpa using ho, by simp [hl], fun r hr => ?_, fun i b hb => ?_⟩
  · have hb2 : Below w.heap.size (W1.alloc (.cells us.toArray 53)) W2 := ⟨hg.os, hg.tape, hg.output, hg.size, fun k hk => hg.block k (by have := h.bel.size; have := h2.size; omega) (fun e => by have := own_geR hr e.symm; omega)⟩
    exact (h.bel.trans (h2.mono h.bel.size)).trans hb2
  · rcases List.mem_append.1 hr with k | k
    · exact h3 r k
    · simp at k; subst k; exact hu3
  · by_cases hi : i < xs.length
    · rw [List.getElem?_append_left hi] at hb
      rw [List.getElem?_append_left (by omega)]
      obtain ⟨r, hr, hq⟩ := hm i b hb
      exact ⟨r, hr, hq.keep fun g cs k => k1 g cs (k.old h1)⟩
    · rw [List.getElem?_append_right (by omega)] at hb
      rw [List.getElem?_append_right (by omega), hl]
      have h0 : i - xs.length = 0 := by have := (List.getElem?_eq_some_iff.1 hb).1; simp at this; omega
      rw [h0] at hb ⊢
      simp at hb
      subst hb
      exact ⟨us, rfl, hu.keep k1⟩
theorem PtI.fin {w W : World} {v : Value} {xs : List Rat} (h : PtI w W v xs) : ∃ X xc, v = .slice X xs.length xc ∧ xs.length ≤ xc ∧ PtAt W W.heap.size X xs := by
  obtain ⟨rows, h1, hl, h3, hm⟩ := h.row
  obtain ⟨X, xc, rfl⟩ := own_slice6 h1
  by_cases h0 : xs.length = 0
  · refine ⟨X, xc, rfl, by omega, fun i a ha => ?_⟩
    have := (List.getElem?_eq_some_iff.1 ha).1
    omega
  · obtain ⟨g', lc', e, hb, hlt⟩ := h1.form (by omega)
    injection e with e1 e2 e3
    subst e1; subst e3
    obtain ⟨cur, hk, _, hc, hx⟩ := own_blk h1
    refine ⟨_, xc, rfl, hc, fun i a ha => ?_⟩
    obtain ⟨r, hr, A, c, D, d, rfl, l1, l2, n1, n2⟩ := hm i a ha
    refine ⟨g', 0, A, c, D, d, rfl, hlt, ?_, ?_, ?_, natB_nin n1 l1, natB_nin n2 l2⟩
    · rw [Nat.zero_add, hk.cell]
      exact hx _ _ (by have := flat3 rows h3 i _ hr 0 (by omega); simpa using this)
    · rw [Nat.zero_add, hk.cell]
      exact hx _ _ (by have := flat3 rows h3 i _ hr 1 (by omega); simpa using this)
    · rw [Nat.zero_add, hk.cell]
      exact hx _ _ (by have := flat3 rows h3 i _ hr 2 (by omega); simpa using this)
theorem Reads.three_new (w : World) (cs : List Value) (h : cs.length = 3) (t : TypeId) : Reads (w.alloc (.cells cs.toArray t)) (w.heap.size + 1) 3 (some ⟨w.heap.size, 0, none⟩) 1 cs := by
  refine ⟨by omega, fun _ => ⟨_, _, rfl, by omega, fun j x hj => ?_⟩⟩
  have := (Blk.new w t cs.toArray).cell j
  rw [Nat.zero_add, this]
  simpa using hj
theorem ptOf_len (ss : List Int) : (ptOf ss).length = ss.length := by simp [ptOf]
theorem ptOf_succ {ss : List Int} {k : Nat} {s : Int} (h : ss[k]? = some s) : ptOf (ss.take (k + 1)) = ptOf (ss.take k) ++ [((3 * s : Int) : Rat)] := by
  unfold ptOf
  rw [List.take_add_one, h, List.map_append]
  rfl
theorem ptOf_sm {ss : List Int} (hs : ∀ s ∈ ss, -1 ≤ s ∧ s ≤ 1) : ∀ a ∈ ptOf ss, Sm a := by
  intro a ha
  obtain ⟨s, h, rfl⟩ := List.mem_map.1 ha
  have := hs s h
  unfold Sm
  rw [Rat.num_intCast, Rat.den_intCast]
  rcases (by omega : s = -1 ∨ s = 0 ∨ s = 1) with rfl | rfl | rfl <;> decide +kernel
theorem err_sep {x : Int} {rows : List (List Int × Bool)} (h0 : errOf x rows ≠ 0) (hs : codeSep rows = true) : errOf x rows = 1 := by
  rw [codeSep_eq] at hs
  unfold errOf at h0 ⊢
  split
  · rfl
  · rename_i h1
    rw [if_neg h1] at h0
    split
    · rfl
    · rename_i h2
      rw [if_neg h2, if_neg (by rw [hs]; decide)] at h0
      exact absurd rfl h0
end Go.Proofs.YtkkliemgidhgmaaGreatDoor

/- The walk of the law SolutionTruth. -/
namespace Go.Proofs.YtkkliemgidhgmaaGreatDoor
open Go.RowKit

set_option maxHeartbeats 4000000 in
set_option maxRecDepth 100000 in
theorem lawTru (n : Nat) (hn : n < 256) (A : Option Addr) (c : Nat) (rows : List (List Int × Bool)) (w : World) (hr : RowsArg w A rows) (htab : TabOk w) :
    Calls Tryz.prog 4 #[.int .u8 (n : Int), .slice A rows.length c] w fun e w' => e = .returned (.bool true) ∧ Below w.heap.size w w' := by
  have HAW := Lib.hid (fun (W : World) (hW : Below w.heap.size w W) => awake_any W (htab.on hW))
  have HTAB := Lib.hid (fun (W : World) (hW : Below w.heap.size w W) => htab.on hW)
  have HB0 := Lib.hid (Below.refl w.heap.size w)
  have HFW := Lib.hid (fun (W : World) (hW : Below w.heap.size w W) => Few_any A rows.length c w.heap.size rows W (hr.at_.below hW) rfl hr.len)
  cases hf : fewB rows
  · rw [hf] at HFW
    clear hr hf htab HTAB hn
    go_enter Tryz.func4, Tryz.ntmps4
    go_wp2_with fail
    refine (HAW.out w HB0.out).mono ?_
    rintro e w1 ⟨rfl, hb1⟩
    have HB1 := Lib.hid hb1
    clear hb1
    go_wp2_with fail
    refine (HFW.out w1 HB1.out).mono ?_
    rintro e w2 ⟨rfl, rfl⟩
    go_wp2_with fail
    refine (HAW.out w1 HB1.out).mono ?_
    rintro e w3 ⟨rfl, hb3⟩
    have HB3 := Lib.hid (HB1.out.trans (hb3.mono HB1.out.size))
    clear hb3
    go_wp2_with fail
    go_ret
    exact ⟨rfl, HB3.out⟩
  · rw [hf] at HFW
    have HR := Lib.hid (fun (W : World) (hW : Below w.heap.size w W) => hr.few hf hW)
    have hmod : (n : Int) % 5 = ((n % 5 : Nat) : Int) := by omega
    have hk4 : n % 5 ≤ 4 := by omega
    have HVAR := Lib.hid (fun (W : World) => variables_any (n % 5) hk4 W)
    have HBLD := Lib.hid (fun (W : World) (hW : Below w.heap.size w W) (K : Option Addr) (kc : Nat) hrv => Build_any (n % 5) hk4 K A kc c W.heap.size rows W (Nat.le_refl _) hrv ⟨(hr.few hf hW).at_.more hW.size, (hr.few hf hW).few, (hr.few hf hW).six, (hr.few hf hW).i64⟩ (htab.on hW))
    have HSEP := Lib.hid (fun (W : World) (hW : Below w.heap.size w W) => Sep_any A rows.length c w.heap.size rows W hW.size (hr.few hf hW).at_ rfl (Nat.le_trans (hr.few hf hW).few (by omega)) (hr.few hf hW).six (hr.few hf hW).i64 (htab.on hW))
    have HMOD := Lib.hid hmod
    have HK4 := Lib.hid hk4
    clear hr hf htab hmod hk4
    go_enter Tryz.func4, Tryz.ntmps4
    go_wp2_with fail
    refine (HAW.out w HB0.out).mono ?_
    rintro e w1 ⟨rfl, hb1⟩
    have HB1 := Lib.hid hb1
    clear hb1
    go_wp2_with fail
    refine (HFW.out w1 HB1.out).mono ?_
    rintro e w2 ⟨rfl, rfl⟩
    go_wp2_with fail
    rw [HMOD.out]
    clear HMOD
    generalize n % 5 = q at *
    refine (HVAR.out _).mono ?_
    rintro e w2 ⟨K1, kc1, rfl, hrv, hb2⟩
    have HB2 := Lib.hid (HB1.out.trans (hb2.mono HB1.out.size))
    have HBD := Lib.hid (HBLD.out w2 HB2.out K1 kc1 hrv)
    clear hrv hb2 HBLD
    go_wp2_with fail
    refine HBD.out.mono ?_
    rintro e w3 ⟨X, A1, c1, K2, kc2, L1, lc1, rfl, hmv, hne, hok, hb3⟩
    have HB3 := Lib.hid (HB2.out.trans (hb3.mono HB2.out.size))
    have HMV := Lib.hid hmv
    have HNE := Lib.hid hne
    have HOK := Lib.hid hok
    clear hmv hne hok hb3 HBD
    go_upto_region 5 with (fail)
    have hal := (Below.refl w3.heap.size w3).alloc (Nat.le_refl _) (.cells #[.int .i64 X.kd, .int .i64 X.rl, .int .i64 X.p.lv, .bool X.p.ng, .slice A1 X.p.ds.length c1, .slice K2 X.p.ks.length kc2, .slice L1 X.ks.length lc1] 35)
    have hk1 := Blk.new w3 35 #[.int .i64 X.kd, .int .i64 X.rl, .int .i64 X.p.lv, .bool X.p.ng, .slice A1 X.p.ds.length c1, .slice K2 X.p.ks.length kc2, .slice L1 X.ks.length lc1]
    have hb4 := HB3.out.trans (hal.mono HB3.out.size)
    have hv4 := HMV.out.below hal
    have hz4 := hal.size
    clear hal HMV HB3
    generalize w3.alloc (.cells #[.int .i64 X.kd, .int .i64 X.rl, .int .i64 X.p.lv, .bool X.p.ng, .slice A1 X.p.ds.length c1, .slice K2 X.p.ks.length kc2, .slice L1 X.ks.length lc1] 35) = w4 at *
    generalize w3.heap.size = g1 at *
    have HB4 := Lib.hid hb4
    have HV4 := Lib.hid hv4
    have HK4' := Lib.hid hk1
    have hg1 := hk1.lt
    have HES := Lib.hid (fun (h0 : errOf (q : Int) rows ≠ 0) (hs : codeSep rows = true) => err_sep h0 hs)
    clear hb4 hv4 hk1
    generalize errOf (q : Int) rows = er at *
    by_cases he : er = 0
    · subst he
      obtain ⟨ts, rfl, hvp, hc⟩ := HOK.out rfl
      clear HSEP HES HNE HOK
      have HVP := Lib.hid hvp
      have HTS := Lib.hid (Nat.le_trans hc.count (HR.out w HB0.out).few)
      have HRT := Lib.hid (fun (k : Nat) (hk : k < rows.length) => row_truth HK4.out hvp hc hk)
      have HAT := Lib.hid (fun (ss : List Int) (hl : ss.length = q) (hs : ∀ x ∈ ss, -1 ≤ x ∧ x ≤ 1) (W : World) (hW : Below w4.heap.size w4 W) (X : Option Addr) (xc : Nat) (hle : q ≤ xc) (hx : PtAt W W.heap.size X (ptOf ss)) =>
        At_any q HK4.out ts HTS.out (cover_terms hc) (ptOf ss) (by rw [ptOf_len]; exact hl) (ptOf_sm hs) A1 c1 K2 kc2 L1 lc1 X xc W.heap.size W (Nat.le_refl _) hle (((HV4.out.more (Nat.le_of_lt hg1)).below hW).more hW.size) hx)
      unfold mval at HAT
      clear hvp hc HV4 HTS
      obtain ⟨i0, hi0, hz0, hz1, hz2⟩ := info_parts Tryz.infoRat
      generalize truM = tM at *
      generalize (orM (varsT q) ts).kd = kd at *
      generalize (orM (varsT q) ts).rl = rl at *
      generalize (orM (varsT q) ts).p.lv = pl at *
      generalize (orM (varsT q) ts).p.ng = pg at *
      generalize (orM (varsT q) ts).p.ds.length = pd at *
      generalize (orM (varsT q) ts).p.ks.length = pk at *
      generalize (orM (varsT q) ts).ks.length = nk at *
      have h90 := (HR.out w HB0.out).few
      generalize hnr : rows.length = nr at *
      have HNR := Lib.hid hnr
      clear hnr
      go_wp2_with fail
      go_loopg [42] nr (fun gn ix wr => ∃ k : Nat, k ≤ nr ∧ gn = nr - k ∧ ix = .int .i64 k ∧ Below w4.heap.size w4 wr)
      case atStart => exact ⟨0, Nat.zero_le _, rfl, rfl, Below.refl _ _⟩
      case round =>
        obtain ⟨k, hk, hgk, rfl, hbw⟩ := hrel
        have HG := Lib.hid hgk
        clear hgk
        have HBW := Lib.hid hbw
        have hww := HB4.out.trans (hbw.mono HB4.out.size)
        have HWW := Lib.hid hww
        by_cases hlt : k < nr
        · obtain ⟨b, o, Ak, ck, rfl, hbB, x0, x1, hrd⟩ := (HR.out wr hww).at_.at_ (k := k) (by rw [HNR.out]; exact hlt)
          have hvk := HVP.out k (by rw [HNR.out]; exact hlt)
          have hrt := HRT.out k hlt
          generalize sg rows k = ss at *
          generalize tr rows k = tb at *
          obtain ⟨hsl, hss⟩ := hvk
          have HSL := Lib.hid hsl; have HSS := Lib.hid hss
          have HRTK := Lib.hid hrt
          have hbl : b < wr.heap.size := Nat.lt_of_lt_of_le hbB hww.size
          have HX0 := Lib.hid (fun (W : World) (hW : Below wr.heap.size wr W) => (hW.cell (p := ⟨b, o + k * 2, none⟩) hbl).trans x0)
          have HX1 := Lib.hid (fun (W : World) (hW : Below wr.heap.size wr W) => (hW.cell (p := ⟨b, o + k * 2 + 1, none⟩) hbl).trans x1)
          have HRD := Lib.hid (fun (W : World) (hW : Below wr.heap.size wr W) => hrd.below (hW.mono hww.size))
          have i3 : (0 : Int) ≤ (k : Int) := by omega
          have i4 : (k : Int) < (nr : Int) := by omega
          generalize hm : ss.length = m at *
          have HM := Lib.hid hm
          have hm4 : m ≤ 4 := by have := HK4.out; omega
          have HPS := Lib.hid (PtI.start wr)
          clear hm hrd x1 hrt hsl hss hbw hww
          go_wp2_with fail
          clear x0
          rename World => wo
          go_loopg [9, 51] m (fun gn v ix W => ∃ j : Nat, j ≤ m ∧ gn = m - j ∧ ix = .int .i64 j ∧ PtI wo W v (ptOf (ss.take j)))
          case atStart => exact ⟨0, Nat.zero_le _, rfl, rfl, by rw [List.take_zero]; exact HPS.out⟩
          case round =>
            clear HPS
            obtain ⟨j, hj, hgj, rfl, hpt⟩ := hrel
            have HGJ := Lib.hid hgj
            clear hgj
            have HPT := Lib.hid hpt
            by_cases hlj : j < m
            · obtain ⟨b2, o2, rfl, hb2, y0⟩ := ints_at (k := j) (HRD.out wr hpt.bel) (by rw [HM.out]; exact hlj)
              have hsj := getD_someB (l := ss) (k := j) (by rw [HM.out]; exact hlj) 0
              have hs1 := HSS.out _ (List.mem_of_getElem? hsj)
              have HSU := Lib.hid (ptOf_succ hsj)
              generalize ss.getD j 0 = s at *
              have HRO := Lib.hid (ROf_any (3 * s) (by omega) (by omega) wr)
              unfold RatRes at HRO
              have z0 := HX0.out wr hpt.bel
              obtain ⟨rws, hro, hrl, hr3, hrm⟩ := hpt.row
              have hln : (ptOf (ss.take j)).length = j := by rw [ptOf_len, List.length_take, HM.out]; omega
              have HLN := Lib.hid hln
              have hro' := hro
              rw [hln] at hro'
              have HRO2 := Lib.hid hro; have HRO' := Lib.hid hro'; have HRL := Lib.hid hrl; have HR3 := Lib.hid hr3; have HRM := Lib.hid hrm
              have hwm : IntKind.i64.wrap (3 * s) = 3 * s := IntWalk.i64_in _ (by omega)
              have hw64 : wrap64 (3 * s) = 3 * s := IntWalk.wrap64_in _ (by omega)
              have h63 : j + 1 ≤ maxLen := by unfold maxLen; omega
              have hby : (j + 1) * 56 ≤ 140737488355328 := by omega
              have j4 : (j : Int) < (m : Int) := by omega
              have j3 : (0 : Int) ≤ (j : Int) := by omega
              have HSZ := Lib.hid hpt.bel.size
              generalize ((3 * s : Int) : Rat) = a at *
              clear hpt hsj hro hro' hrl hr3 hrm hln hs1
              go_wp2_with fail
              (first | rw [hw64] | skip)
              refine HRO.out.mono ?_
              rintro e w1 ⟨A3, c3, D3, d3, rfl, l1, l2, n1, n2, hb1⟩
              have hrd3 := Reads.three_new w1 [.bool (decide (a.num < 0)), .slice A3 (dig a.num.natAbs).length c3, .slice D3 (dig a.den).length d3] rfl 53
              have hal := (Below.refl w1.heap.size w1).alloc (Nat.le_refl _) (.cells #[.bool (decide (a.num < 0)), .slice A3 (dig a.num.natAbs).length c3, .slice D3 (dig a.den).length d3] 53)
              have hroA := own_old (own_old HRO'.out hb1) hal
              have hbase : wo.heap.size ≤ (w1.alloc (.cells #[.bool (decide (a.num < 0)), .slice A3 (dig a.num.natAbs).length c3, .slice D3 (dig a.den).length d3] 53)).heap.size := Nat.le_trans HSZ.out (Nat.le_trans hb1.size hal.size)
              have HPU := Lib.hid (fun (W2 : World) (v' : Value) ho hg => HPT.out.push (W2 := W2) (v' := v') (a := a) (us := [.bool (decide (a.num < 0)), .slice A3 (dig a.num.natAbs).length c3, .slice D3 (dig a.den).length d3]) HRO2.out HRL.out HR3.out HRM.out hb1 ⟨A3, c3, D3, d3, rfl, l1, l2, n1, n2⟩ (by rw [HLN.out]; exact ho) hg)
              clear hb1 l1 l2 n1 n2 hal
              go_wp2_with (at_builtin; refine wpList_append_any _ rfl (.tmp 54) (.tmp 65) 48 rfl wo.heap.size 53 i0 _ 3 56 Tryz.underlying48 hi0 hz0 hz1 hz2 rfl (by decide) u9 j rws.flatten rfl hroA (w1.heap.size + 1) (some ⟨w1.heap.size, 0, none⟩) 1 1 [.bool (decide (a.num < 0)), .slice A3 (dig a.num.natAbs).length c3, .slice D3 (dig a.den).length d3] rfl hrd3 (by intro u hu; simp at hu; rcases hu with rfl | rfl | rfl <;> rfl) h63 hby hbase ?_; intro v' w2 hown2 hg2 hat2; refine Hid.out ?_)
              refine Lib.hid ?_
              have HN := Lib.hid (HPU.out w2 v' hown2 hg2)
              clear hown2 hg2 hat2 hrd3 hroA hbase h63 hby
              go_wp2_with fail
              go_roundg (m - (j + 1))
              case rel => exact ⟨j + 1, by omega, rfl, by go_num, by rw [HSU.out]; exact HN.out⟩
              case measure => have := HGJ.out; omega
            · obtain rfl : m = j := by omega
              have hpf : PtI wo wr u9 (ptOf ss) := by
                rw [List.take_of_length_le (by rw [HM.out]; exact Nat.le_refl _)] at hpt
                exact hpt
              obtain ⟨X, xc, rfl, hxc, hpa⟩ := hpf.fin
              have hqx : q ≤ xc := by rw [ptOf_len, HM.out, HSL.out] at hxc; exact hxc
              have hbwr := HBW.out.trans (hpf.bel.mono HBW.out.size)
              have hA := HAT.out ss (HM.out.trans HSL.out) HSS.out wr hbwr X xc hqx hpa
              rw [HRTK.out] at hA
              rw [ptOf_len, HM.out, HSL.out]
              have HA := Lib.hid hA
              have hkb := HK4'.out.old hbwr
              have a0 := hkb.cell 0; have a1 := hkb.cell 1; have a2 := hkb.cell 2; have a3 := hkb.cell 3; have a4 := hkb.cell 4; have a5 := hkb.cell 5; have a6 := hkb.cell 6
              have HBR := Lib.hid hbwr
              have HPB := Lib.hid hpf.bel
              clear hpf hpt hxc hpa hA hkb hbwr
              go_wp2_with fail
              refine HA.out.mono ?_
              rintro e w5 ⟨rfl, hb5⟩
              have HB5 := Lib.hid (HBR.out.trans (hb5.mono HBR.out.size))
              have y1 := HX1.out w5 (HPB.out.trans (hb5.mono HPB.out.size))
              clear hb5 a0 a1 a2 a3 a4 a5 a6
              have htb : (tb != tb) = false := by cases tb <;> rfl
              go_wp2_with fail
              go_roundg (nr - (k + 1))
              case rel => exact ⟨k + 1, by omega, rfl, by go_num, HB5.out⟩
              case measure => have := HG.out; omega
        · obtain rfl : nr = k := by omega
          go_wp2_with fail
          go_ret
          exact ⟨rfl, HWW.out⟩
    · have hne0 : (er != 0) = true := by simpa using he
      have HS := Lib.hid (HSEP.out w4 HB4.out)
      have HEE := Lib.hid (HES.out he)
      clear HSEP HES HNE HOK HV4 HK4'
      generalize codeSep rows = cs at *
      cases cs
      · go_wp2_with fail
        refine HS.out.mono ?_
        rintro e w5 ⟨rfl, hb5⟩
        have HB5 := Lib.hid (HB4.out.trans (hb5.mono HB4.out.size))
        clear hb5
        go_wp2_with fail
        go_ret
        exact ⟨rfl, HB5.out⟩
      · obtain rfl : er = 1 := HEE.out rfl
        go_wp2_with fail
        refine HS.out.mono ?_
        rintro e w5 ⟨rfl, hb5⟩
        have HB5 := Lib.hid (HB4.out.trans (hb5.mono HB4.out.size))
        clear hb5
        go_wp2_with fail
        go_ret
        exact ⟨rfl, HB5.out⟩
end Go.Proofs.YtkkliemgidhgmaaGreatDoor
