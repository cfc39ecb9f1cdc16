/- Contract of recpoly.canonical. -/
import Derived.IntWalk
import Derived.Test.YtkkliemgidhgmaaGreatDoorRO
import Derived.Test.YtkkliemgidhgmaaGreatDoorRP
namespace Go.Proofs.YtkkliemgidhgmaaGreatDoor
open Go.RowKit

theorem nrm_eachR : ∀ (ts : List Tm) (X : Nat), (∀ t ∈ ts, t.1.natAbs ≤ X) → nrm ts ≤ ts.length * X
  | [], X, _ => by simp [nrm]
  | t :: ts, X, h => by
    have h1 := h t List.mem_cons_self
    have h2 := nrm_eachR ts X fun s hs => h s (List.mem_cons_of_mem _ hs)
    simp only [nrm, List.length_cons]
    rw [Nat.succ_mul]
    omega
theorem pw_ltR {a b : Nat} (h : a < b) : pw a < pw b := Nat.pow_lt_pow_right (by omega) h
theorem big_eachR {n k : Nat} (hn : n ≤ 1000) (hk : k + 1 < 600) : n * pw k < Big := by
  have h1 : n * pw k ≤ 4294967295 * pw k := Nat.mul_le_mul_right _ (by omega)
  have h2 : pw (k + 1) = pw k * 4294967296 := Nat.pow_succ ..
  have h3 : pw (k + 1) < Big := pw_ltR hk
  have h4 : 0 < pw k := Nat.pow_pos (by omega)
  generalize pw k = y at *
  exact Nat.lt_of_le_of_lt h1 (Nat.lt_trans (by omega) (h2 ▸ h3))
theorem val_pwR {ds : List Nat} (h : Dig ds) {k : Nat} (hk : ds.length ≤ k) : val ds < pw k := by
  unfold pw
  exact Nat.lt_of_lt_of_le (val_lt h) (Nat.pow_le_pow_right (by omega) hk)
/-- collected terms are a readable polynomial -/
theorem ColI.pin {w W : World} {A : Option Addr} {n c base B D : Nat} {t : RP} {qs : List PT} {dg : Nat} (h : ColI w (.slice none 0 0) [] base B W (.slice A n c) qs) (hk : qs.map PT.key = colT t (0, 0, 0, 0)) (hf : FewT dg t) (hdg : dg ≤ 500) (hD : depT t ≤ D) (hD' : D ≤ 12) (hc : cntT t ≤ 1000) (hBW : B ≤ W.heap.size) :
    PIn W W.heap.size A qs 1000 1000 (1000 * pw 500) := by
  have hm : ExpB (0, 0, 0, 0) 0 := by simp [ExpB]
  have hq : ∀ q ∈ qs, q.ds.length ≤ dg ∧ ExpB q.m (0 + 12 * depT t) := fun q hq => colT_mem t _ _ hf hm q.key (by rw [← hk]; exact List.mem_map.2 ⟨q, hq, rfl⟩)
  have hl : qs.length ≤ 1000 := by
    have := congrArg List.length hk
    rw [List.length_map] at this
    have := colT_len t (0, 0, 0, 0)
    omega
  have ho : W.ownsRow base 118 6 (.slice A n c) qs.length (qs.flatMap PT.cells) := h.own
  have hr := ho
  obtain ⟨A', c', e⟩ := own_slice6 ho
  injection e with e1 e2 e3
  subst e2
  refine ⟨⟨Reads.of_own hr, fun q hq' => (h.dg q hq').more hBW⟩, fun q hq' => by have := (hq q hq').1; omega, fun q hq' => ?_, fun q hq' _ => ?_, hl, ?_⟩
  · obtain ⟨⟨a0, b0⟩, ⟨a1, b1⟩, ⟨a2, b2⟩, ⟨a3, b3⟩⟩ := (hq q hq').2
    unfold WfM WfI
    omega
  · obtain ⟨⟨a0, b0⟩, ⟨a1, b1⟩, ⟨a2, b2⟩, ⟨a3, b3⟩⟩ := (hq q hq').2
    unfold MB
    omega
  · refine Nat.le_trans (nrm_eachR _ (pw 500) fun s hs => ?_) (Nat.mul_le_mul_right _ (by rw [List.length_map]; exact hl))
    obtain ⟨q, hq', rfl⟩ := List.mem_map.1 hs
    show (ival q.ng q.ds).natAbs ≤ _
    rw [ival_abs]
    exact Nat.le_of_lt (val_pwR (h.dg q hq').dg (Nat.le_trans (hq q hq').1 hdg))
def CRes (t : RP) (w : World) (e : Ending) (w' : World) : Prop := ∃ T A c K kc, CanT t T ∧ e = .returned (rval T A c K kc) ∧ RV w' (· < w'.heap.size) T (rcell T A c K kc) ∧ SmT 1001 T ∧ Below w.heap.size w w'
set_option maxHeartbeats 4000000 in
set_option maxRecDepth 100000 in
theorem canon_any (dg : Nat) (hdg : dg ≤ 500) (t : RP) (hD : depT t ≤ 12) (hf : FewT dg t) (hcn : cntT t ≤ 1000) (A : Option Addr) (c : Nat) (K : Option Addr) (kc B : Nat) (w : World) (hB : B ≤ w.heap.size) (h : RV w (· < B) t (rcell t A c K kc)) :
    Calls Tryz.prog 45 #[rval t A c K kc] w (CRes t w) := by
  have HX := Lib.hid (fun (cs ds : Array Value) => boxes2 w 32 32 cs ds)
  have HR := Lib.hid (fun (W : World) (hW : Below w.heap.size w W) => h.below (hW.mono hB))
  have HIS := Lib.hid (fun (W : World) (hW : Below w.heap.size w W) => isCan_any dg (by omega) (depT t) t (Nat.le_refl _) hf A c K kc B W (Nat.le_trans hB hW.size) (h.below (hW.mono hB)))
  have HSM := Lib.hid (FewT.sm (X := 1001) (by omega) (by omega) t hf)
  have HB := Lib.hid hB
  have HCO := Lib.hid (fun (W : World) (hW : Below w.heap.size w W) => collect_any dg (by omega) (depT t) t (Nat.le_refl _) hf A c K kc B W.heap.size [] (.slice none 0 0) (0, 0, 0, 0) 0 W (Nat.le_trans hB hW.size) (Nat.le_refl _) (h.below (hW.mono hB)) (POwn.nil W W.heap.size).row (by rw [List.length_nil]; omega) (by simp [ExpB]) (by omega))
  unfold ColRes at HCO
  have HPI := Lib.hid (fun (w0 W : World) (A : Option Addr) (n c base : Nat) (qs : List PT) (h : ColI w0 (.slice none 0 0) [] base B W (.slice A n c) qs) (hk : qs.map PT.key = colT t (0, 0, 0, 0)) (hBW : B ≤ W.heap.size) => h.pin hk hf hdg (Nat.le_refl _) hD hcn hBW)
  clear h hf hcn hD hdg hB
  unfold rval at HIS HCO ⊢
  cases hcb : canB t with
  | true =>
    rw [hcb] at HIS
    have HT := Lib.hid (show CanT t t from .inl ⟨hcb, rfl⟩)
    clear hcb
    go_enter Tryz.func45, Tryz.ntmps45
    go_wp2_with fail
    obtain ⟨hb0, k0, k1, hs⟩ := HX.out #[.int .i64 t.lv, .bool t.ng, .slice A t.ds.length c, .slice K t.ks.length kc] #[.int .i64 0, .bool false, .slice none 0 0, .slice none 0 0]
    generalize (w.alloc (.cells #[.int .i64 t.lv, .bool t.ng, .slice A t.ds.length c, .slice K t.ks.length kc] 32)).alloc (.cells #[.int .i64 0, .bool false, .slice none 0 0, .slice none 0 0] 32) = W at *
    have HI1 := Lib.hid (HIS.out W hb0)
    refine HI1.out.mono ?_
    rintro e w2 ⟨rfl, hb2⟩
    have j0 := k0.old hb2; have j1 := k1.old hb2
    have hbw := hb0.trans (hb2.mono hb0.size)
    have HJ := Lib.hid (sets4 (k := 0) j1 (.int .i64 t.lv) (.bool t.ng) (.slice A t.ds.length c) (.slice K t.ks.length kc)).1
    have HBW := Lib.hid ((((hbw.setCell (p := ⟨w.heap.size + 1, 0, none⟩) (Nat.le_add_right _ 1) (.int .i64 t.lv)).setCell (p := ⟨w.heap.size + 1, 1, none⟩) (Nat.le_add_right _ 1) (.bool t.ng)).setCell (p := ⟨w.heap.size + 1, 2, none⟩) (Nat.le_add_right _ 1) (.slice A t.ds.length c)).setCell (p := ⟨w.heap.size + 1, 3, none⟩) (Nat.le_add_right _ 1) (.slice K t.ks.length kc))
    have c0 : w2.cell? ⟨w.heap.size, 0, none⟩ = some (.int .i64 t.lv) := j0.cell 0
    have c1 : w2.cell? ⟨w.heap.size, 1, none⟩ = some (.bool t.ng) := j0.cell 1
    have c2 : w2.cell? ⟨w.heap.size, 2, none⟩ = some (.slice A t.ds.length c) := j0.cell 2
    have c3 : w2.cell? ⟨w.heap.size, 3, none⟩ = some (.slice K t.ks.length kc) := j0.cell 3
    have d0 : w2.cell? ⟨w.heap.size + 1, 0, none⟩ = some (.int .i64 0) := j1.cell 0
    have d1 : w2.cell? ⟨w.heap.size + 1, 1, none⟩ = some (.bool false) := j1.cell 1
    have d2 : w2.cell? ⟨w.heap.size + 1, 2, none⟩ = some (.slice none 0 0) := j1.cell 2
    have d3 : w2.cell? ⟨w.heap.size + 1, 3, none⟩ = some (.slice none 0 0) := j1.cell 3
    have f0 := j1.frozen 0; have f1 := j1.frozen 1; have f2 := j1.frozen 2; have f3 := j1.frozen 3; have z0 := j1.lt
    clear hb0 k0 k1 hs HI1 hb2 j0 j1 hbw HX HIS
    go_wp2_with fail
    refine ret_blk Tryz.results45 rfl rfl HJ.out Tryz.underlying32 rfl Tryz.sizeRec ?_
    exact ⟨t, A, c, K, kc, HT.out, rfl, (HR.out _ HBW.out).more (Nat.le_trans HB.out HBW.out.size), HSM.out, HBW.out⟩
  | false =>
    rw [hcb] at HIS
    have HCB := Lib.hid hcb
    clear hcb
    go_enter Tryz.func45, Tryz.ntmps45
    go_wp2_with fail
    obtain ⟨hb0, k0, k1, hs⟩ := HX.out #[.int .i64 t.lv, .bool t.ng, .slice A t.ds.length c, .slice K t.ks.length kc] #[.int .i64 0, .bool false, .slice none 0 0, .slice none 0 0]
    generalize (w.alloc (.cells #[.int .i64 t.lv, .bool t.ng, .slice A t.ds.length c, .slice K t.ks.length kc] 32)).alloc (.cells #[.int .i64 0, .bool false, .slice none 0 0, .slice none 0 0] 32) = W at *
    have HI1 := Lib.hid (HIS.out W hb0)
    refine HI1.out.mono ?_
    rintro e w2 ⟨rfl, hb2⟩
    have j0 := k0.old hb2; have j1 := k1.old hb2
    have hbw := hb0.trans (hb2.mono hb0.size)
    have HJ1 := Lib.hid j1; have HBW := Lib.hid hbw
    have HCO1 := Lib.hid (HCO.out w2 hbw)
    have c0 : w2.cell? ⟨w.heap.size, 0, none⟩ = some (.int .i64 t.lv) := j0.cell 0
    have c1 : w2.cell? ⟨w.heap.size, 1, none⟩ = some (.bool t.ng) := j0.cell 1
    have c2 : w2.cell? ⟨w.heap.size, 2, none⟩ = some (.slice A t.ds.length c) := j0.cell 2
    have c3 : w2.cell? ⟨w.heap.size, 3, none⟩ = some (.slice K t.ks.length kc) := j0.cell 3
    clear hb0 k0 k1 hs HI1 hb2 j0 j1 hbw HX HIS HCO HR
    go_wp2_with fail
    refine HCO1.out.mono ?_
    rintro e w3 ⟨v', qs, rfl, hcl, hkey⟩
    obtain ⟨A3, c3', rfl⟩ := own_slice6 hcl.own
    have hb3 : Below w2.heap.size w2 w3 := ⟨hcl.gro.os, hcl.gro.tape, hcl.gro.output, hcl.gro.size, fun k hk => hcl.gro.block k hk (by simp [Value.ownBlock])⟩
    have hbw3 := HBW.out.trans (hb3.mono HBW.out.size)
    have HPN := Lib.hid (Normal_poly A3 c3' w3.heap.size 1000 1000 (1000 * pw 500) qs w3 (Nat.le_refl _) (HPI.out w2 w3 A3 _ c3' _ qs hcl hkey (Nat.le_trans HB.out hbw3.size)) (by omega) (big_eachR (by omega) (by omega)))
    unfold PRes at HPN
    have HKY := Lib.hid (show ∀ m, cf (qs.map PT.tm) m = cf (colTm t) m from fun m => by rw [key_tm, hkey]; rfl)
    have HJ3 := Lib.hid (HJ1.out.old hb3); have HBW3 := Lib.hid hbw3
    clear hcl hkey hb3 hbw3 HCO1 HPI HBW HJ1 c0 c1 c2 c3
    rw [List.nil_append]
    go_wp2_with fail
    refine HPN.out.mono ?_
    rintro e w4 ⟨A4, c4, rs, rfl, hgd, hb4⟩
    have hbw4 := HBW3.out.trans (hb4.mono HBW3.out.size)
    have hexp : ∀ p ∈ rs, ∀ i, i < 4 → 0 ≤ gt p.m i ∧ gt p.m i ≤ 1000 := fun p hp i hi => by
      have h1 := hgd.vl hp
      have h2 := hgd.mb p hp
      rw [vld_iff] at h1
      unfold MB at h2
      rcases (by omega : i = 0 ∨ i = 1 ∨ i = 2 ∨ i = 3) with rfl | rfl | rfl | rfl <;> (simp only [gt]; omega)
    have hdl := fun p hp => hgd.dlen (k := 600) (big_eachR (by omega) (by omega)) (p := p) hp
    have hcap : rs.length ≤ c4 := by
      by_cases hr0 : rs.length = 0
      · omega
      · obtain ⟨g', cap, hv', _⟩ := hgd.own.row.form (by omega)
        injection hv' with h1
        have hrow := hgd.own.row
        rw [h1] at hrow
        exact (own_blk hrow).choose_spec.2.2.1
    have HBD := Lib.hid (build_any 5 4 (by omega) (by omega) rs A4 c4 w4.heap.size w4 (Nat.le_refl _) hgd.own.polyIn hgd.can.desc hgd.own.cn hexp hcap hgd.len hgd.own.dg)
    unfold BldRes rval at HBD
    have HCT := Lib.hid (show CanT t (bldT 4 (rs.map PT.tm)) from .inr ⟨HCB.out, _, hgd.can, fun m => (hgd.cf m).trans (HKY.out m), rfl⟩)
    have HST := Lib.hid (bldT_sm (X := 1001) (by omega) 4 (rs.map PT.tm) (by omega) fun s hs => by
      obtain ⟨p, hp, rfl⟩ := List.mem_map.1 hs
      refine ⟨by rw [← (hgd.own.cn p hp).ds]; have := hdl p hp; omega, fun i hi => ?_⟩
      have := (hexp p hp i hi).2
      show gt p.m i + 1 ≤ _
      omega)
    have HJ4 := Lib.hid (HJ3.out.old hb4); have HBW4 := Lib.hid hbw4
    clear hgd hb4 hbw4 hexp hdl hcap HPN HJ3 HBW3 HKY
    generalize bldT 4 (rs.map PT.tm) = T at *
    go_wp2_with fail
    refine HBD.out.mono ?_
    rintro e w5 ⟨A5, c5, K5, kc5, rfl, hrb, hb5⟩
    have j1 := HJ4.out.old hb5
    obtain ⟨s1, s2, s3⟩ := sets4 (k := 0) j1 (.int .i64 T.lv) (.bool T.ng) (.slice A5 T.ds.length c5) (.slice K5 T.ks.length kc5)
    have HS := Lib.hid s1
    have hwl := HJ4.out.lt
    have HRB := Lib.hid (RB.keep (base' := w4.heap.size) hrb s2 (fun j ds hg hj => s3 j ds (by omega) hj) (Nat.le_refl _))
    have hbw5 := HBW4.out.trans (hb5.mono HBW4.out.size)
    have HBF := Lib.hid ((((hbw5.setCell (p := ⟨w.heap.size + 1, 0, none⟩) (Nat.le_add_right _ 1) (.int .i64 T.lv)).setCell (p := ⟨w.heap.size + 1, 1, none⟩) (Nat.le_add_right _ 1) (.bool T.ng)).setCell (p := ⟨w.heap.size + 1, 2, none⟩) (Nat.le_add_right _ 1) (.slice A5 T.ds.length c5)).setCell (p := ⟨w.heap.size + 1, 3, none⟩) (Nat.le_add_right _ 1) (.slice K5 T.ks.length kc5))
    have d0 : w5.cell? ⟨w.heap.size + 1, 0, none⟩ = some (.int .i64 0) := j1.cell 0
    have d1 : w5.cell? ⟨w.heap.size + 1, 1, none⟩ = some (.bool false) := j1.cell 1
    have d2 : w5.cell? ⟨w.heap.size + 1, 2, none⟩ = some (.slice none 0 0) := j1.cell 2
    have d3 : w5.cell? ⟨w.heap.size + 1, 3, none⟩ = some (.slice none 0 0) := j1.cell 3
    have f0 := j1.frozen 0; have f1 := j1.frozen 1; have f2 := j1.frozen 2; have f3 := j1.frozen 3; have z0 := j1.lt
    clear hrb hb5 j1 s1 s2 s3 hbw5 HBD HJ4 HBW4 hwl
    go_wp2_with fail
    refine ret_blk Tryz.results45 rfl rfl HS.out Tryz.underlying32 rfl Tryz.sizeRec ?_
    exact ⟨T, A5, c5, K5, kc5, HCT.out, rfl, HRB.out.rv, HST.out, HBF.out⟩
end Go.Proofs.YtkkliemgidhgmaaGreatDoor
