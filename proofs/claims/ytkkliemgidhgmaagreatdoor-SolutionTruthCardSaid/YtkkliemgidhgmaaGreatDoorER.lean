/- Contracts of prenex.kind, evaluate.Holds, mainvar.Level. -/
import Derived.IntWalk
import Derived.Deep.RegionHeld3
import Derived.Test.YtkkliemgidhgmaaGreatDoorBQ
namespace Go.Proofs.YtkkliemgidhgmaaGreatDoor
open Go.RowKit

set_option maxHeartbeats 1000000 in
set_option maxRecDepth 100000 in
theorem kind_any (kd : Int) (h0 : 0 ≤ kd) (h4 : kd ≤ 4) (x1 x2 x3 x4 x5 x6 : Value) (w : World) : Calls Tryz.prog 50 #[.agg #[.int .i64 kd, x1, x2, x3, x4, x5, x6]] w fun e w' => e = .returned (.int .i64 kd) ∧ Below w.heap.size w w' := by
  have HB := Lib.hid ((Below.refl w.heap.size w).alloc (Nat.le_refl _) (.cells #[.int .i64 kd, x1, x2, x3, x4, x5, x6] 35))
  go_enter Tryz.func50, Tryz.ntmps50
  go_wp2_with fail
  go_ret
  exact ⟨rfl, HB.out⟩
def holdsB (rel s : Int) : Bool := if rel = 1 then decide (s < 0) else if rel = 2 then decide (s ≤ 0) else if rel = 4 then s != 0 else if rel = 5 then decide (0 ≤ s) else if rel = 6 then decide (0 < s) else s == 0
set_option maxHeartbeats 1000000 in
set_option maxRecDepth 100000 in
theorem Holds_any (rel s : Int) (w : World) : Calls Tryz.prog 52 #[.int .i64 rel, .int .i64 s] w fun e w' => e = .returned (.bool (holdsB rel s)) ∧ w' = w := by
  unfold holdsB
  by_cases h1 : rel = 1
  · subst h1
    go_enter Tryz.func52, Tryz.ntmps52
    go_wp2_with fail
    go_ret
    exact ⟨rfl, rfl⟩
  rw [if_neg h1]
  have e1 : (rel == 1) = false := by simpa using h1
  by_cases h2 : rel = 2
  · subst h2
    clear h1 e1
    go_enter Tryz.func52, Tryz.ntmps52
    go_wp2_with fail
    go_ret
    exact ⟨rfl, rfl⟩
  rw [if_neg h2]
  have e2 : (rel == 2) = false := by simpa using h2
  by_cases h4 : rel = 4
  · subst h4
    clear h1 e1 h2 e2
    go_enter Tryz.func52, Tryz.ntmps52
    go_wp2_with fail
    go_ret
    exact ⟨rfl, rfl⟩
  rw [if_neg h4]
  have e4 : (rel == 4) = false := by simpa using h4
  by_cases h5 : rel = 5
  · subst h5
    clear h1 e1 h2 e2 h4 e4
    go_enter Tryz.func52, Tryz.ntmps52
    go_wp2_with fail
    go_ret
    exact ⟨rfl, rfl⟩
  rw [if_neg h5]
  have e5 : (rel == 5) = false := by simpa using h5
  by_cases h6 : rel = 6
  · subst h6
    clear h1 e1 h2 e2 h4 e4 h5 e5
    go_enter Tryz.func52, Tryz.ntmps52
    go_wp2_with fail
    go_ret
    exact ⟨rfl, rfl⟩
  rw [if_neg h6]
  have e6 : (rel == 6) = false := by simpa using h6
  clear h1 h2 h4 h5 h6
  go_enter Tryz.func52, Tryz.ntmps52
  go_wp2_with fail
  go_ret
  exact ⟨rfl, rfl⟩
theorem run_fieldL (z : Int) (x1 x2 x3 : Value) (w : World) : (Instr.field 32 (.agg #[.int .i64 z, x1, x2, x3]) 0).run Tryz.prog w = .ok (.int .i64 z) w := by kernel_rfl
set_option maxHeartbeats 1000000 in
set_option maxRecDepth 100000 in
theorem MLevel_any (dg : Nat) (hdg : dg ≤ 500) (p : RP) (h1 : depT p ≤ 12) (h2 : FewT dg p) (h3 : cntT p ≤ 1000) (A : Option Addr) (c : Nat) (K : Option Addr) (kc B : Nat) (w : World) (hB : B ≤ w.heap.size) (h : RV w (· < B) p (rcell p A c K kc)) :
    Calls Tryz.prog 51 #[rval p A c K kc] w fun e w' => e = .returned (.int .i64 (nrT p).lv) ∧ Below w.heap.size w w' := by
  have hb0 := (Below.refl w.heap.size w).alloc (Nat.le_refl _) (.cells #[.int .i64 p.lv, .bool p.ng, .slice A p.ds.length c, .slice K p.ks.length kc] 32)
  have HN := Lib.hid (rnorm_any dg hdg p h1 h2 h3 A c K kc B _ (Nat.le_trans hB hb0.size) (h.below (hb0.mono hB)))
  unfold NrmRes at HN
  unfold rval at HN ⊢
  have HB0 := Lib.hid hb0
  have HE := Lib.hid (fun (T : RP) (hT : CanT p T) => show (nrT p).lv = (cpT T).lv by rw [nrT_eq hT])
  clear hb0 h hB h1 h2 h3
  generalize (nrT p).lv = z at *
  generalize p.ds.length = dl at *
  generalize p.ks.length = kl at *
  generalize p.ng = pg at *
  generalize p.lv = pl at *
  go_enter Tryz.func51, Tryz.ntmps51
  go_wp2_with fail
  refine HN.out.mono ?_
  rintro e w2 ⟨T, A5, c5, K5, kc5, hT, rfl, _, hb2⟩
  have HZ := Lib.hid (HE.out T hT)
  have HB2 := Lib.hid (HB0.out.trans (hb2.mono HB0.out.size))
  clear hb2 hT
  have hfd := fun (W : World) => run_fieldL (cpT T).lv (.bool (cpT T).ng) (.slice A5 (cpT T).ds.length c5) (.slice K5 (cpT T).ks.length kc5) W
  go_wp2_with fail
  go_ret
  exact ⟨by rw [HZ.out]; rfl, HB2.out⟩
end Go.Proofs.YtkkliemgidhgmaaGreatDoor

/- Contract of prenex.Level. -/
namespace Go.Proofs.YtkkliemgidhgmaaGreatDoor
open Go.RowKit

mutual
noncomputable def levM : MX → Int
  | .mk k _ p ks => if k = 2 then (nrT p).lv else if k = 3 ∨ k = 4 then levL 0 ks else 0
noncomputable def levL (a : Int) : List MX → Int
  | [] => a
  | t :: ts => levL (max a (levM t)) ts
end
theorem levL_append : ∀ (ts us : List MX) (a : Int), levL a (ts ++ us) = levL (levL a ts) us
  | [], us, a => by simp [levL]
  | t :: ts, us, a => by
    rw [List.cons_append]
    simp only [levL]
    exact levL_append ts us _
theorem levL_take {ts : List MX} {k : Nat} {t : MX} (a : Int) (h : ts[k]? = some t) : levL a (ts.take (k + 1)) = max (levL a (ts.take k)) (levM t) := by
  rw [List.take_add_one, h, levL_append]
  simp [levL]
mutual
/-- matrices whose polynomials are small -/
def PrM (dg : Nat) : MX → Prop
  | .mk k _ p ks => 0 ≤ k ∧ k ≤ 4 ∧ depT p ≤ 12 ∧ FewT dg p ∧ cntT p ≤ 1000 ∧ ks.length ≤ 1000000 ∧ PrL dg ks
def PrL (dg : Nat) : List MX → Prop
  | [] => True
  | t :: ts => PrM dg t ∧ PrL dg ts
end
theorem PrL.mem {dg : Nat} {ts : List MX} : PrL dg ts ↔ ∀ t ∈ ts, PrM dg t := by
  induction ts with
  | nil => simp [PrL]
  | cons t ts ih => simp [PrL, ih]
theorem PrM.parts {dg : Nat} {t : MX} (h : PrM dg t) : (0 ≤ t.kd ∧ t.kd ≤ 4) ∧ (depT t.p ≤ 12 ∧ FewT dg t.p ∧ cntT t.p ≤ 1000) ∧ t.ks.length ≤ 1000000 ∧ ∀ u ∈ t.ks, PrM dg u := by
  cases t with
  | mk k r p ks =>
    simp only [PrM] at h
    obtain ⟨a, b, c, d, e, f, g⟩ := h
    exact ⟨⟨a, b⟩, ⟨c, d, e⟩, f, PrL.mem.1 g⟩
theorem levM_eq (t : MX) : levM t = if t.kd = 2 then (nrT t.p).lv else if t.kd = 3 ∨ t.kd = 4 then levL 0 t.ks else 0 := by
  cases t
  rfl
abbrev mval (t : MX) (A : Option Addr) (c : Nat) (K : Option Addr) (kc : Nat) (L : Option Addr) (lc : Nat) : Value := .agg #[.int .i64 t.kd, .int .i64 t.rl, .int .i64 t.p.lv, .bool t.p.ng, .slice A t.p.ds.length c, .slice K t.p.ks.length kc, .slice L t.ks.length lc]
set_option maxHeartbeats 4000000 in
set_option maxRecDepth 100000 in
theorem PLevel_any (dg : Nat) (hdg : dg ≤ 500) : ∀ (D : Nat) (t : MX), depM t ≤ D → PrM dg t → ∀ (A : Option Addr) (c : Nat) (K : Option Addr) (kc : Nat) (L : Option Addr) (lc B : Nat) (w : World), B ≤ w.heap.size → MV w (· < B) t (mcell t A c K kc L lc) →
    Calls Tryz.prog 30 #[mval t A c K kc L lc] w fun e w' => e = .returned (.int .i64 (levM t)) ∧ Below w.heap.size w w'
  | 0, t, hD, _, _, _, _, _, _, _, _, _, _, _ => by cases t; simp only [depM] at hD; omega
  | D + 1, t, hD, hpr, A, c, K, kc, L, lc, B, w, hB, h => by
    have IH := Lib.hid (PLevel_any dg hdg D)
    have hb0 := (Below.refl w.heap.size w).alloc (Nat.le_refl _) (.cells #[.int .i64 t.kd, .int .i64 t.rl, .int .i64 t.p.lv, .bool t.p.ng, .slice A t.p.ds.length c, .slice K t.p.ks.length kc, .slice L t.ks.length lc] 35)
    have hk0 := Blk.new w 35 #[.int .i64 t.kd, .int .i64 t.rl, .int .i64 t.p.lv, .bool t.p.ng, .slice A t.p.ds.length c, .slice K t.p.ks.length kc, .slice L t.ks.length lc]
    obtain ⟨hkd, hpp, hkl, hkk⟩ := hpr.parts
    have HB0 := Lib.hid hb0; have HK0 := Lib.hid hk0
    have HR := Lib.hid (fun (W : World) (hW : Below w.heap.size w W) => h.below (hW.mono hB))
    have HB := Lib.hid hB
    have HDD := Lib.hid (fun (u : MX) (hu : u ∈ t.ks) => show depM u ≤ D by have := depM_kid hu; omega)
    have HKK := Lib.hid hkk
    have HKI := Lib.hid (fun (W : World) => kind_any t.kd hkd.1 hkd.2 (.int .i64 t.rl) (.int .i64 t.p.lv) (.bool t.p.ng) (.slice A t.p.ds.length c) (.slice K t.p.ks.length kc) (.slice L t.ks.length lc) W)
    have HML := Lib.hid (fun (W : World) (hW : Below w.heap.size w W) => MLevel_any dg hdg t.p hpp.1 hpp.2.1 hpp.2.2 A c K kc B W (Nat.le_trans hB hW.size) (h.below (hW.mono hB)).node.1)
    have HLC := Lib.hid h.node.2
    rw [levM_eq]
    unfold mval
    unfold rval at HML
    generalize (nrT t.p).lv = pz at *
    clear hb0 hk0 h hB hD hpr hpp hkk
    generalize hnk : t.ks.length = nk at *
    have HNK := Lib.hid hnk
    clear hnk
    generalize t.p.ds.length = pd at *
    generalize t.p.ks.length = pk at *
    generalize t.p.ng = pg at *
    generalize t.p.lv = pl at *
    generalize t.kd = kd at *
    generalize t.rl = rl at *
    by_cases k2 : kd = 2
    · subst k2
      rw [if_pos rfl]
      go_enter Tryz.func30, Tryz.ntmps30
      go_wp2_with fail
      refine (HKI.out _).mono ?_
      rintro e w1 ⟨rfl, hb1⟩
      have HB1 := Lib.hid (HB0.out.trans (hb1.mono HB0.out.size))
      have c2 := (HK0.out.old hb1).cell 2; have c3 := (HK0.out.old hb1).cell 3; have c4 := (HK0.out.old hb1).cell 4; have c5 := (HK0.out.old hb1).cell 5
      clear hb1
      go_wp2_with fail
      refine (HML.out w1 HB1.out).mono ?_
      rintro e w2 ⟨rfl, hb2⟩
      have HB2 := Lib.hid (HB1.out.trans (hb2.mono HB1.out.size))
      clear hb2
      go_wp2_with fail
      go_ret
      exact ⟨rfl, HB2.out⟩
    · rw [if_neg k2]
      have e2 : (kd == 2) = false := by simpa using k2
      by_cases k34 : kd = 3 ∨ kd = 4
      · rw [if_pos k34]
        clear HML k2
        rcases k34 with rfl | rfl
        all_goals
          go_enter Tryz.func30, Tryz.ntmps30
          go_wp2_with fail
          refine (HKI.out _).mono ?_
          rintro e w1 ⟨rfl, hb1⟩
          have HB1 := Lib.hid (HB0.out.trans (hb1.mono HB0.out.size))
          have c6 := (HK0.out.old hb1).cell 6
          clear hb1
          go_wp2_with fail
          clear c6
          go_loopg [3, 19] nk (fun gn v ix wr => ∃ j : Nat, j ≤ nk ∧ gn = nk - j ∧ ix = .int .i64 j ∧ v = .int .i64 (levL 0 (t.ks.take j)) ∧ Below w.heap.size w wr)
          case atStart => exact ⟨0, Nat.zero_le _, rfl, rfl, by simp [levL], HB1.out⟩
          case round =>
            clear HB1 HB0 HK0
            obtain ⟨j, hj, hgj, rfl, rfl, hbw⟩ := hrel
            have HG := Lib.hid hgj
            clear hgj
            by_cases hlt : j < nk
            · obtain ⟨u, hu⟩ : ∃ u, t.ks[j]? = some u := ⟨_, List.getElem?_eq_getElem (by rw [HNK.out]; exact hlt)⟩
              obtain ⟨b, o, A1, q1, K1, r1, L1, s1, rfl, hbB, hx, hku⟩ := (HR.out wr hbw).kid hu
              have hum := List.mem_of_getElem? hu
              have hal := (Below.refl wr.heap.size wr).alloc (Nat.le_refl _) (.cells #[.int .i64 u.kd, .int .i64 u.rl, .int .i64 u.p.lv, .bool u.p.ng, .slice A1 u.p.ds.length q1, .slice K1 u.p.ks.length r1, .slice L1 u.ks.length s1] 35)
              have HC := Lib.hid (IH.out u (HDD.out u hum) (HKK.out u hum) A1 q1 K1 r1 L1 s1 wr.heap.size _ hal.size ((hku.more (Nat.le_trans HB.out hbw.size)).below hal))
              have HBA := Lib.hid (hbw.trans (hal.mono hbw.size))
              have HST := Lib.hid (levL_take 0 hu)
              unfold mval at HC
              have x0 := hx 0 _ rfl; have x1 := hx 1 _ rfl; have x2 := hx 2 _ rfl; have x3 := hx 3 _ rfl; have x4 := hx 4 _ rfl; have x5 := hx 5 _ rfl; have x6 := hx 6 _ rfl
              simp only [Nat.add_zero, ← Nat.add_assoc] at x0 x1 x2 x3 x4 x5 x6
              have i3 : (0 : Int) ≤ (j : Int) := by omega
              have i4 : (j : Int) < (nk : Int) := by omega
              have i5 : (nk : Int) ≤ (lc : Int) := by have := HLC.out; omega
              clear hu hum hku hx hbw hal
              generalize levM u = z at *
              generalize levL 0 (t.ks.take j) = v at *
              generalize u.p.ds.length = ud at *
              generalize u.p.ks.length = uk at *
              generalize u.p.ng = ug at *
              generalize u.p.lv = ul at *
              generalize u.kd = ukd at *
              generalize u.rl = url at *
              generalize u.ks.length = un at *
              go_wp2_with fail
              refine HC.out.mono ?_
              rintro e w2 ⟨rfl, hb2⟩
              have HB2 := Lib.hid (HBA.out.trans (hb2.mono HBA.out.size))
              clear hb2
              go_wp2_with fail
              go_roundg (nk - (j + 1))
              case rel => exact ⟨j + 1, by omega, rfl, by go_num, by rw [HST.out], HB2.out⟩
              case measure => have := HG.out; omega
            · obtain rfl : nk = j := by omega
              have HF := Lib.hid (show levL 0 (t.ks.take nk) = levL 0 t.ks by rw [List.take_of_length_le (by rw [HNK.out]; exact Nat.le_refl _)])
              have HBF := Lib.hid hbw
              clear hbw
              go_wp2_with fail
              go_ret
              exact ⟨by rw [← HF.out]; rfl, HBF.out⟩
      · rw [if_neg k34]
        have e3 : (kd == 3) = false := by simp; omega
        have e4 : (kd == 4) = false := by simp; omega
        clear k34 k2
        go_enter Tryz.func30, Tryz.ntmps30
        go_wp2_with fail
        refine (HKI.out _).mono ?_
        rintro e w1 ⟨rfl, hb1⟩
        have HB1 := Lib.hid (HB0.out.trans (hb1.mono HB0.out.size))
        clear hb1
        go_wp2_with fail
        go_ret
        exact ⟨rfl, HB1.out⟩
end Go.Proofs.YtkkliemgidhgmaaGreatDoor

/- Contract of evaluate.truth. -/
namespace Go.Proofs.YtkkliemgidhgmaaGreatDoor
open Go.RowKit

mutual
def truM (sg : RP → Int) : MX → Bool
  | .mk k r p ks => if k = 1 then true else if k = 2 then holdsB r (sg p) else if k = 3 then truA sg ks else if k = 4 then truO sg ks else false
def truA (sg : RP → Int) : List MX → Bool
  | [] => true
  | t :: ts => truM sg t && truA sg ts
def truO (sg : RP → Int) : List MX → Bool
  | [] => false
  | t :: ts => truM sg t || truO sg ts
end
theorem truA_all (sg : RP → Int) : ∀ ks : List MX, truA sg ks = ks.all (truM sg)
  | [] => by simp [truA]
  | t :: ts => by simp [truA, truA_all sg ts]
theorem truO_any (sg : RP → Int) : ∀ ks : List MX, truO sg ks = ks.any (truM sg)
  | [] => by simp [truO]
  | t :: ts => by simp [truO, truO_any sg ts]
theorem truM_eq (sg : RP → Int) (t : MX) : truM sg t = if t.kd = 1 then true else if t.kd = 2 then holdsB t.rl (sg t.p) else if t.kd = 3 then t.ks.all (truM sg) else if t.kd = 4 then t.ks.any (truM sg) else false := by
  cases t
  simp only [truM, truA_all, truO_any]
  rfl
theorem any_take_succ {α : Type} {f : α → Bool} {l : List α} {k : Nat} {x : α} (h : l[k]? = some x) (h0 : (l.take k).any f = false) (hf : f x = false) : (l.take (k + 1)).any f = false := by
  rw [List.take_add_one, h, List.any_append, h0]
  simp [hf]
theorem any_good {α : Type} {f : α → Bool} {l : List α} {x : α} (h : x ∈ l) (hf : f x = true) : l.any f = true := List.any_eq_true.2 ⟨x, h, hf⟩
mutual
def GdM (G : RP → Prop) : MX → Prop
  | .mk k _ p ks => (k = 2 → G p) ∧ ks.length ≤ 1000000 ∧ GdL G ks
def GdL (G : RP → Prop) : List MX → Prop
  | [] => True
  | t :: ts => GdM G t ∧ GdL G ts
end
theorem GdL.mem {G : RP → Prop} {ts : List MX} : GdL G ts ↔ ∀ t ∈ ts, GdM G t := by
  induction ts with
  | nil => simp [GdL]
  | cons t ts ih => simp [GdL, ih]
theorem GdM.parts {G : RP → Prop} {t : MX} (h : GdM G t) : (t.kd = 2 → G t.p) ∧ t.ks.length ≤ 1000000 ∧ ∀ u ∈ t.ks, GdM G u := by
  cases t with
  | mk k r p ks =>
    simp only [GdM] at h
    exact ⟨h.1, h.2.1, GdL.mem.1 h.2.2⟩
abbrev clos (gx : Nat) : Value := .func (.func 32) #[] #[.pointer (some ⟨gx, 0, none⟩)]
set_option maxHeartbeats 4000000 in
set_option maxRecDepth 100000 in
theorem truth_any (sg : RP → Int) (gx : Nat) (G : RP → Prop) (w0 : World)
    (HF : ∀ (p : RP), G p → ∀ (A : Option Addr) (c : Nat) (K : Option Addr) (kc B : Nat) (W : World), Below w0.heap.size w0 W → B ≤ W.heap.size → RV W (· < B) p (rcell p A c K kc) → Calls Tryz.prog 32 #[rval p A c K kc, .pointer (some ⟨gx, 0, none⟩)] W fun e w' => e = .returned (.int .i64 (sg p)) ∧ Below W.heap.size W w') :
    ∀ (D : Nat) (t : MX), depM t ≤ D → GdM G t → ∀ (A : Option Addr) (c : Nat) (K : Option Addr) (kc : Nat) (L : Option Addr) (lc B : Nat) (w : World), Below w0.heap.size w0 w → B ≤ w.heap.size → MV w (· < B) t (mcell t A c K kc L lc) →
    Calls Tryz.prog 31 #[mval t A c K kc L lc, clos gx] w fun e w' => e = .returned (.bool (truM sg t)) ∧ Below w.heap.size w w'
  | 0, t, hD, _, _, _, _, _, _, _, _, _, _, _, _ => by cases t; simp only [depM] at hD; omega
  | D + 1, t, hD, hgd, A, c, K, kc, L, lc, B, w, hw0, hB, h => by
    have IH := Lib.hid (truth_any sg gx G w0 HF D)
    have hb0 := (Below.refl w.heap.size w).alloc (Nat.le_refl _) (.cells #[.int .i64 t.kd, .int .i64 t.rl, .int .i64 t.p.lv, .bool t.p.ng, .slice A t.p.ds.length c, .slice K t.p.ks.length kc, .slice L t.ks.length lc] 35)
    have hk0 := Blk.new w 35 #[.int .i64 t.kd, .int .i64 t.rl, .int .i64 t.p.lv, .bool t.p.ng, .slice A t.p.ds.length c, .slice K t.p.ks.length kc, .slice L t.ks.length lc]
    have HB0 := Lib.hid hb0; have HK0 := Lib.hid hk0
    have HR := Lib.hid (fun (W : World) (hW : Below w.heap.size w W) => h.below (hW.mono hB))
    have HB := Lib.hid hB
    have HW0 := Lib.hid (fun (W : World) (hW : Below w.heap.size w W) => hw0.trans (hW.mono hw0.size))
    have HDD := Lib.hid (fun (u : MX) (hu : u ∈ t.ks) => show depM u ≤ D by have := depM_kid hu; omega)
    have HGG := Lib.hid hgd.parts.2.2
    have hkl := hgd.parts.2.1
    have HAT := Lib.hid (fun (hk : t.kd = 2) (W : World) (hW : Below w.heap.size w W) => HF t.p (hgd.parts.1 hk) A c K kc B W (hw0.trans (hW.mono hw0.size)) (Nat.le_trans hB hW.size) (h.below (hW.mono hB)).node.1)
    have HLC := Lib.hid h.node.2
    rw [truM_eq]
    unfold mval clos
    unfold rval at HAT
    generalize sg t.p = sz at *
    clear hb0 hk0 h hB hD hgd hw0 HF
    generalize hnk : t.ks.length = nk at *
    have HNK := Lib.hid hnk
    clear hnk
    generalize t.p.ds.length = pd at *
    generalize t.p.ks.length = pk at *
    generalize t.p.ng = pg at *
    generalize t.p.lv = pl at *
    generalize t.kd = kd at *
    generalize t.rl = rl at *
    by_cases k1 : kd = 1
    · subst k1
      rw [if_pos rfl]
      clear HAT
      go_enter Tryz.func31, Tryz.ntmps31
      go_wp2_with fail
      go_ret
      exact ⟨rfl, HB0.out⟩
    rw [if_neg k1]
    have e1 : (kd == 1) = false := by simpa using k1
    by_cases k2 : kd = 2
    · subst k2
      rw [if_pos rfl]
      have HA := Lib.hid (HAT.out rfl)
      clear HAT k1 e1
      go_enter Tryz.func31, Tryz.ntmps31
      go_wp2_with fail
      generalize hWW : w.alloc (.cells #[.int .i64 2, .int .i64 rl, .int .i64 pl, .bool pg, .slice A pd c, .slice K pk kc, .slice L nk lc] 35) = W at *
      clear hWW
      have KF := Lib.hid (fun (V : World) (hV : Below W.heap.size W V) => (⟨(HK0.out.old hV).cell 1, (HK0.out.old hV).cell 2, (HK0.out.old hV).cell 3, (HK0.out.old hV).cell 4, (HK0.out.old hV).cell 5⟩ :
        V.cell? ⟨w.heap.size, 1, none⟩ = some (.int .i64 rl) ∧ V.cell? ⟨w.heap.size, 2, none⟩ = some (.int .i64 pl) ∧ V.cell? ⟨w.heap.size, 3, none⟩ = some (.bool pg) ∧ V.cell? ⟨w.heap.size, 4, none⟩ = some (.slice A pd c) ∧ V.cell? ⟨w.heap.size, 5, none⟩ = some (.slice K pk kc)))
      have hb : Below W.heap.size W W.drew := (Drawn.drew _).below _
      have hb0 : Below W.heap.size W W := Below.refl _ _
      have HAW := Lib.hid (fun (V : World) (hV : Below W.heap.size W V) => HA.out V (HB0.out.trans (hV.mono HB0.out.size)))
      go_region_held3 (fun w' => w'.cell? ⟨w.heap.size, 1, none⟩ = some (.int .i64 rl) ∧ w'.cell? ⟨w.heap.size, 2, none⟩ = some (.int .i64 pl) ∧ w'.cell? ⟨w.heap.size, 3, none⟩ = some (.bool pg) ∧ w'.cell? ⟨w.heap.size, 4, none⟩ = some (.slice A pd c) ∧ w'.cell? ⟨w.heap.size, 5, none⟩ = some (.slice K pk kc))
        (first | (with_reducible exact KF.out _ hb) | (with_reducible exact KF.out _ hb0))
        (first
          | (go_at_call 32; (with_reducible refine (HAW.out _ hb).mono ?_); rintro e w4 ⟨rfl, hk⟩; replace hb := hb.trans (hk.mono hb.size))
          | (go_at_call 52; refine (Holds_any _ _ _).mono ?_; rintro e w5 ⟨rfl, rfl⟩))
      all_goals
        have HBF := Lib.hid (HB0.out.trans (hb.mono HB0.out.size))
        go_wp2_with fail
        go_ret
        exact ⟨rfl, HBF.out⟩
    rw [if_neg k2]
    have e2 : (kd == 2) = false := by simpa using k2
    clear HAT
    by_cases k3 : kd = 3
    · subst k3
      rw [if_pos rfl]
      clear e1 e2 k1 k2
      have c6 := HK0.out.cell 6
      go_enter Tryz.func31, Tryz.ntmps31
      go_wp2_with fail
      clear c6
      go_loopg [27] nk (fun gn ix wr => ∃ j : Nat, j ≤ nk ∧ gn = nk - j ∧ ix = .int .i64 j ∧ (t.ks.take j).all (truM sg) = true ∧ Below w.heap.size w wr)
      case atStart => exact ⟨0, Nat.zero_le _, rfl, rfl, by simp, HB0.out⟩
      case round =>
        clear HB0 HK0
        obtain ⟨j, hj, hgj, rfl, hok, hbw⟩ := hrel
        have HG := Lib.hid hgj
        have HOK := Lib.hid hok
        clear hgj
        by_cases hlt : j < nk
        · obtain ⟨u, hu⟩ : ∃ u, t.ks[j]? = some u := ⟨_, List.getElem?_eq_getElem (by rw [HNK.out]; exact hlt)⟩
          obtain ⟨b, o, A1, q1, K1, r1, L1, s1, rfl, hbB, hx, hku⟩ := (HR.out wr hbw).kid hu
          have hum := List.mem_of_getElem? hu
          have hal := (Below.refl wr.heap.size wr).alloc (Nat.le_refl _) (.cells #[.int .i64 u.kd, .int .i64 u.rl, .int .i64 u.p.lv, .bool u.p.ng, .slice A1 u.p.ds.length q1, .slice K1 u.p.ks.length r1, .slice L1 u.ks.length s1] 35)
          have HBA := Lib.hid (hbw.trans (hal.mono hbw.size))
          have HC := Lib.hid (IH.out u (HDD.out u hum) (HGG.out u hum) A1 q1 K1 r1 L1 s1 wr.heap.size _ (HW0.out _ HBA.out) hal.size ((hku.more (Nat.le_trans HB.out hbw.size)).below hal))
          have HSTOP := Lib.hid (fun hz : truM sg u = false => show t.ks.all (truM sg) = false from all_bad hum hz)
          have HNX := Lib.hid (fun hz : truM sg u = true => all_take_succ hu hok hz)
          unfold mval clos at HC
          have x0 := hx 0 _ rfl; have x1 := hx 1 _ rfl; have x2 := hx 2 _ rfl; have x3 := hx 3 _ rfl; have x4 := hx 4 _ rfl; have x5 := hx 5 _ rfl; have x6 := hx 6 _ rfl
          simp only [Nat.add_zero, ← Nat.add_assoc] at x0 x1 x2 x3 x4 x5 x6
          have i3 : (0 : Int) ≤ (j : Int) := by omega
          have i4 : (j : Int) < (nk : Int) := by omega
          have i5 : (nk : Int) ≤ (lc : Int) := by have := HLC.out; omega
          clear hu hum hku hx hbw hal hok
          generalize truM sg u = z at *
          generalize u.p.ds.length = ud at *
          generalize u.p.ks.length = uk at *
          generalize u.p.ng = ug at *
          generalize u.p.lv = ul at *
          generalize u.kd = ukd at *
          generalize u.rl = url at *
          generalize u.ks.length = un at *
          go_wp2_with fail
          refine HC.out.mono ?_
          rintro e w2 ⟨rfl, hb2⟩
          have HB2 := Lib.hid (HBA.out.trans (hb2.mono HBA.out.size))
          clear hb2 HC x0 x1 x2 x3 x4 x5 x6
          cases z
          · have HF := Lib.hid (HSTOP.out rfl)
            go_wp2_with fail
            go_ret
            exact ⟨by rw [HF.out]; rfl, HB2.out⟩
          · have HN := Lib.hid (HNX.out rfl)
            go_wp2_with fail
            go_roundg (nk - (j + 1))
            case rel => exact ⟨j + 1, by omega, rfl, by go_num, HN.out, HB2.out⟩
            case measure => have := HG.out; omega
        · obtain rfl : nk = j := by omega
          have HF := Lib.hid (show t.ks.all (truM sg) = true by rw [List.take_of_length_le (by rw [HNK.out]; exact Nat.le_refl _)] at hok; exact hok)
          have HBF := Lib.hid hbw
          clear hbw hok
          go_wp2_with fail
          go_ret
          exact ⟨by rw [HF.out]; rfl, HBF.out⟩
    rw [if_neg k3]
    have e3 : (kd == 3) = false := by simpa using k3
    by_cases k4 : kd = 4
    · subst k4
      rw [if_pos rfl]
      clear e1 e2 e3 k1 k2 k3
      have c6 := HK0.out.cell 6
      go_enter Tryz.func31, Tryz.ntmps31
      go_wp2_with fail
      clear c6
      go_loopg [41] nk (fun gn ix wr => ∃ j : Nat, j ≤ nk ∧ gn = nk - j ∧ ix = .int .i64 j ∧ (t.ks.take j).any (truM sg) = false ∧ Below w.heap.size w wr)
      case atStart => exact ⟨0, Nat.zero_le _, rfl, rfl, by simp, HB0.out⟩
      case round =>
        clear HB0 HK0
        obtain ⟨j, hj, hgj, rfl, hok, hbw⟩ := hrel
        have HG := Lib.hid hgj
        have HOK := Lib.hid hok
        clear hgj
        by_cases hlt : j < nk
        · obtain ⟨u, hu⟩ : ∃ u, t.ks[j]? = some u := ⟨_, List.getElem?_eq_getElem (by rw [HNK.out]; exact hlt)⟩
          obtain ⟨b, o, A1, q1, K1, r1, L1, s1, rfl, hbB, hx, hku⟩ := (HR.out wr hbw).kid hu
          have hum := List.mem_of_getElem? hu
          have hal := (Below.refl wr.heap.size wr).alloc (Nat.le_refl _) (.cells #[.int .i64 u.kd, .int .i64 u.rl, .int .i64 u.p.lv, .bool u.p.ng, .slice A1 u.p.ds.length q1, .slice K1 u.p.ks.length r1, .slice L1 u.ks.length s1] 35)
          have HBA := Lib.hid (hbw.trans (hal.mono hbw.size))
          have HC := Lib.hid (IH.out u (HDD.out u hum) (HGG.out u hum) A1 q1 K1 r1 L1 s1 wr.heap.size _ (HW0.out _ HBA.out) hal.size ((hku.more (Nat.le_trans HB.out hbw.size)).below hal))
          have HSTOP := Lib.hid (fun hz : truM sg u = true => show t.ks.any (truM sg) = true from any_good hum hz)
          have HNX := Lib.hid (fun hz : truM sg u = false => any_take_succ hu hok hz)
          unfold mval clos at HC
          have x0 := hx 0 _ rfl; have x1 := hx 1 _ rfl; have x2 := hx 2 _ rfl; have x3 := hx 3 _ rfl; have x4 := hx 4 _ rfl; have x5 := hx 5 _ rfl; have x6 := hx 6 _ rfl
          simp only [Nat.add_zero, ← Nat.add_assoc] at x0 x1 x2 x3 x4 x5 x6
          have i3 : (0 : Int) ≤ (j : Int) := by omega
          have i4 : (j : Int) < (nk : Int) := by omega
          have i5 : (nk : Int) ≤ (lc : Int) := by have := HLC.out; omega
          clear hu hum hku hx hbw hal hok
          generalize truM sg u = z at *
          generalize u.p.ds.length = ud at *
          generalize u.p.ks.length = uk at *
          generalize u.p.ng = ug at *
          generalize u.p.lv = ul at *
          generalize u.kd = ukd at *
          generalize u.rl = url at *
          generalize u.ks.length = un at *
          go_wp2_with fail
          refine HC.out.mono ?_
          rintro e w2 ⟨rfl, hb2⟩
          have HB2 := Lib.hid (HBA.out.trans (hb2.mono HBA.out.size))
          clear hb2 HC x0 x1 x2 x3 x4 x5 x6
          cases z
          · have HN := Lib.hid (HNX.out rfl)
            go_wp2_with fail
            go_roundg (nk - (j + 1))
            case rel => exact ⟨j + 1, by omega, rfl, by go_num, HN.out, HB2.out⟩
            case measure => have := HG.out; omega
          · have HF := Lib.hid (HSTOP.out rfl)
            go_wp2_with fail
            go_ret
            exact ⟨by rw [HF.out]; rfl, HB2.out⟩
        · obtain rfl : nk = j := by omega
          have HF := Lib.hid (show t.ks.any (truM sg) = false by rw [List.take_of_length_le (by rw [HNK.out]; exact Nat.le_refl _)] at hok; exact hok)
          have HBF := Lib.hid hbw
          clear hbw hok
          go_wp2_with fail
          go_ret
          exact ⟨by rw [HF.out]; rfl, HBF.out⟩
    rw [if_neg k4]
    have e4 : (kd == 4) = false := by simpa using k4
    clear k1 k2 k3 k4
    go_enter Tryz.func31, Tryz.ntmps31
    go_wp2_with fail
    go_ret
    exact ⟨rfl, HB0.out⟩
end Go.Proofs.YtkkliemgidhgmaaGreatDoor
