/- Contract of recpoly.Normal. -/
import Derived.IntWalk
import Derived.Test.YtkkliemgidhgmaaGreatDoorRH
import Derived.Test.YtkkliemgidhgmaaGreatDoorRQ
namespace Go.Proofs.YtkkliemgidhgmaaGreatDoor
open Go.RowKit

def NrmRes (t : RP) (w : World) (e : Ending) (w' : World) : Prop := ∃ T A c K kc, CanT t T ∧ e = .returned (rval (cpT T) A c K kc) ∧ RB w' w.heap.size (cpT T) (rcell (cpT T) A c K kc) ∧ Below w.heap.size w w'
set_option maxHeartbeats 4000000 in
set_option maxRecDepth 100000 in
theorem rnorm_any (dg : Nat) (hdg : dg ≤ 500) (t : RP) (hD : depT t ≤ 12) (hf : FewT dg t) (hcn : cntT t ≤ 1000) (A : Option Addr) (c : Nat) (K : Option Addr) (kc B : Nat) (w : World) (hB : B ≤ w.heap.size) (h : RV w (· < B) t (rcell t A c K kc)) :
    Calls Tryz.prog 24 #[rval t A c K kc] w (NrmRes t w) := by
  have HX := Lib.hid (fun (cs ds : Array Value) => boxes2 w 32 32 cs ds)
  have HCA := Lib.hid (fun (W : World) (hW : Below w.heap.size w W) => canon_any dg hdg t hD hf hcn A c K kc B W (Nat.le_trans hB hW.size) (h.below (hW.mono hB)))
  have HB := Lib.hid hB
  unfold CRes at HCA
  have HCP := Lib.hid (fun (T : RP) (hT : SmT 1001 T) (A : Option Addr) (c : Nat) (K : Option Addr) (kc : Nat) (W : World) (h : RV W (· < W.heap.size) T (rcell T A c K kc)) => copy_any 1001 (by omega) (depT T) T (Nat.le_refl _) hT A c K kc W.heap.size W (Nat.le_refl _) h)
  unfold CopyRes at HCP
  clear h hf hcn hD hdg hB
  unfold rval at HCA HCP ⊢
  go_enter Tryz.func24, Tryz.ntmps24
  go_wp2_with fail
  obtain ⟨hb0, k0, k1, hs⟩ := HX.out #[.int .i64 t.lv, .bool t.ng, .slice A t.ds.length c, .slice K t.ks.length kc] #[.int .i64 0, .bool false, .slice none 0 0, .slice none 0 0]
  generalize (w.alloc (.cells #[.int .i64 t.lv, .bool t.ng, .slice A t.ds.length c, .slice K t.ks.length kc] 32)).alloc (.cells #[.int .i64 0, .bool false, .slice none 0 0, .slice none 0 0] 32) = W at *
  have HI1 := Lib.hid (HCA.out W hb0)
  refine HI1.out.mono ?_
  rintro e w2 ⟨T, A2, c2, K2, kc2, hT, rfl, hrv, hsm, hb2⟩
  have HJ1 := Lib.hid (k1.old hb2)
  have HBW := Lib.hid (hb0.trans (hb2.mono hb0.size))
  have HCT := Lib.hid hT
  have HI2 := Lib.hid (HCP.out T hsm A2 c2 K2 kc2 w2 hrv)
  clear hb0 k0 k1 hs HI1 hb2 HX HCA hT hrv hsm HCP
  go_wp2_with fail
  refine HI2.out.mono ?_
  rintro e w5 ⟨A5, c5, K5, kc5, rfl, hrb, hb5⟩
  clear HI2
  have j1 := HJ1.out.old hb5
  obtain ⟨s1, s2, s3⟩ := sets4 (k := 0) j1 (.int .i64 (cpT T).lv) (.bool (cpT T).ng) (.slice A5 (cpT T).ds.length c5) (.slice K5 (cpT T).ks.length kc5)
  have HS := Lib.hid s1
  have hwl := HJ1.out.lt
  have HRB := Lib.hid (RB.keep (base' := w2.heap.size) hrb s2 (fun j ds hg hj => s3 j ds (by omega) hj) (Nat.le_refl _))
  have hbw5 := HBW.out.trans (hb5.mono HBW.out.size)
  have HBF := Lib.hid ((((hbw5.setCell (p := ⟨w.heap.size + 1, 0, none⟩) (Nat.le_add_right _ 1) (.int .i64 (cpT T).lv)).setCell (p := ⟨w.heap.size + 1, 1, none⟩) (Nat.le_add_right _ 1) (.bool (cpT T).ng)).setCell (p := ⟨w.heap.size + 1, 2, none⟩) (Nat.le_add_right _ 1) (.slice A5 (cpT T).ds.length c5)).setCell (p := ⟨w.heap.size + 1, 3, none⟩) (Nat.le_add_right _ 1) (.slice K5 (cpT T).ks.length kc5))
  have HSZ := Lib.hid HBW.out.size
  have d0 : w5.cell? ⟨w.heap.size + 1, 0, none⟩ = some (.int .i64 0) := j1.cell 0
  have d1 : w5.cell? ⟨w.heap.size + 1, 1, none⟩ = some (.bool false) := j1.cell 1
  have d2 : w5.cell? ⟨w.heap.size + 1, 2, none⟩ = some (.slice none 0 0) := j1.cell 2
  have d3 : w5.cell? ⟨w.heap.size + 1, 3, none⟩ = some (.slice none 0 0) := j1.cell 3
  have f0 := j1.frozen 0; have f1 := j1.frozen 1; have f2 := j1.frozen 2; have f3 := j1.frozen 3; have z0 := j1.lt
  clear hrb hb5 j1 s1 s2 s3 hbw5 HJ1 HBW hwl
  generalize hcp : cpT T = U at *
  have HCU := Lib.hid hcp
  clear hcp
  go_wp2_with fail
  refine ret_blk Tryz.results24 rfl rfl HS.out Tryz.underlying32 rfl Tryz.sizeRec ?_
  exact ⟨T, A5, c5, K5, kc5, HCT.out, by rw [HCU.out]; rfl, by rw [HCU.out]; exact HRB.out.mono HSZ.out, HBF.out⟩
end Go.Proofs.YtkkliemgidhgmaaGreatDoor
