/- Contract of division.subtractMultiple. -/
import Derived.Test.YtpbapoanjkekmaaVE
namespace Go.Proofs.Ytpbapoanjkekmaa
open Go.RowKit

/-- all but block g is kept -/
abbrev Wr (g : Nat) (w w' : World) : Prop := w.grownBy w' (some g)
theorem Wr.refl (g : Nat) (w : World) : Wr g w w := ⟨rfl, rfl, rfl, Nat.le_refl _, fun _ _ _ => rfl⟩
theorem Wr.trans {g : Nat} {u v w : World} (h : Wr g u v) (k : Wr g v w) : Wr g u w :=
  ⟨k.os.trans h.os, k.tape.trans h.tape, k.output.trans h.output, Nat.le_trans h.size k.size, fun i hi hn => (k.block i (Nat.lt_of_lt_of_le hi h.size) hn).trans (h.block i hi hn)⟩
theorem Wr.set_ {g : Nat} (w : World) (o : Nat) (u : Value) : Wr g w (w.setCell ⟨g, o, none⟩ u) :=
  ⟨rfl, rfl, rfl, by simp, fun k _ hn => Below.heap_setCell w ⟨g, o, none⟩ u k (fun e => hn (by rw [e]))⟩
theorem Wr.below {g : Nat} {w w' : World} (h : Wr g w w') (hg : g < w.heap.size) : Below g w w' :=
  ⟨h.os, h.tape, h.output, h.size, fun k hk => h.block k (Nat.lt_trans hk hg) (fun e => by injection e with e; omega)⟩
theorem mid_at {us zs : List Nat} {j k : Nat} (hz : zs.length = k) (hl : j + k < us.length) : (us.take j ++ (zs ++ us.drop (j + k))).getD (j + k) 0 = us.getD (j + k) 0 := by
  have hj : (us.take j).length = j := by rw [List.length_take]; omega
  rw [List.getD_eq_getElem?_getD, List.getElem?_append_right (by omega), hj, List.getElem?_append_right (by omega), hz, List.getElem?_drop, List.getD_eq_getElem?_getD, show j + k + (j + k - j - k) = j + k by omega]
theorem mid_set {us zs : List Nat} {j k t : Nat} (hz : zs.length = k) (hl : j + k < us.length) : (us.take j ++ (zs ++ us.drop (j + k))).set (j + k) t = us.take j ++ ((zs ++ [t]) ++ us.drop (j + (k + 1))) := by
  have hj : (us.take j).length = j := by rw [List.length_take]; omega
  rw [List.set_append_right _ _ (by omega), hj, show j + k - j = k by omega, List.set_append_right _ _ (by omega), hz, Nat.sub_self, List.drop_eq_getElem_cons hl, List.set_cons_zero, List.append_assoc]
  rfl
theorem mid_len {us zs : List Nat} {j k : Nat} (hz : zs.length = k) (hl : j + k ≤ us.length) : (us.take j ++ (zs ++ us.drop (j + k))).length = us.length := by
  rw [List.length_append, List.length_append, List.length_take, List.length_drop]; omega
theorem partU_at {us : List Nat} {n j k : Nat} (hk : k ≤ n) : (partU us n j).getD k 0 = us.getD (j + k) 0 := by
  unfold partU
  rw [List.getD_eq_getElem?_getD, List.getElem?_take, if_pos (by omega), List.getElem?_drop, List.getD_eq_getElem?_getD]
theorem sub_digits {y d c : Nat} (hy : y < 4294967296) (hd : d < 4294967296) (hc : c < 4294967296) :
    y * d / 4294967296 + (y * d % 4294967296 + c + 0) / 4294967296 < 4294967296 ∧ (y * d / 4294967296 + (y * d % 4294967296 + c + 0) / 4294967296) * 4294967296 + (y * d % 4294967296 + c + 0) % 4294967296 = y * d + c := by
  have := mul_bound hy hd
  generalize y * d = x at *
  omega
theorem subm_step {x l b : Nat} (hx : x < 4294967296) (hl : l < 4294967296) (hb : b ≤ 1) : (x + 4294967296 - l - b) % 4294967296 + (l + b) = x + 4294967296 * (if x < l + b then 1 else 0) := by
  split <;> omega
def SubMRes (us v : List Nat) (j n d g : Nat) (w : World) (e : Ending) (w' : World) : Prop :=
  ∃ (zs : List Nat) (b : Nat), b ≤ 1 ∧ e = .returned (.bool (b != 0)) ∧ zs.length = n + 1 ∧ Dig zs ∧ val zs + d * val v = val (partU us n j) + 4294967296 ^ (n + 1) * b ∧ Blk w' g 70 (u32s (us.take j ++ (zs ++ us.drop (j + (n + 1))))).toArray ∧ Wr g w w'
set_option maxHeartbeats 4000000 in
set_option maxRecDepth 100000 in
theorem subMul_any (A : Option Addr) (c cp B g j n d : Nat) (us v : List Nat) (w : World) (hB : B ≤ g) (hu : Blk w g 70 (u32s us).toArray) (hul : us.length ≤ 900000) (hj : j + n + 1 ≤ us.length) (hud : Dig us) (hv : Reads w B 1 A n (u32s v)) (hvl : v.length = n) (hvd : Dig v) (hd : d < 4294967296) :
    Calls Try.prog 85 #[.slice (some ⟨g, j, none⟩) (n + 1) cp, .slice A n c, .int .u32 (d : Int)] w (SubMRes us v j n d g w) := by
  have HV := Lib.hid (fun (W : World) (hW : Wr g w W) => hv.below ((hW.below hu.lt).mono hB))
  have HVD := Lib.hid hvd; have HUD := Lib.hid hud; have HVL := Lib.hid hvl
  have HP := Lib.hid (show (partU us n j).length = n + 1 by unfold partU; rw [List.length_take, List.length_drop]; omega)
  have hub : Blk w g 70 (u32s (us.take j ++ ([] ++ us.drop (j + 0)))).toArray := by rw [Nat.add_zero, List.nil_append, List.take_append_drop]; exact hu
  clear hv hvd hud hu hvl
  go_enter Try.func85, Try.ntmps85
  go_wp2_with fail
  go_loopg [7, 8, 9, 10, 11, 12, 13, 17] n (fun gn cv bv _ _ _ _ _ kv wr => ∃ (k cr b : Nat) (zs : List Nat), k ≤ n ∧ gn = n - k ∧ kv = .int .i64 k ∧ cv = .int .u32 (cr : Int) ∧ bv = .int .u32 (b : Int) ∧ SubM zs cr b k (val ((partU us n j).take k)) (val (v.take k)) d ∧ Blk wr g 70 (u32s (us.take j ++ (zs ++ us.drop (j + k)))).toArray ∧ Wr g w wr)
  case atStart => exact ⟨0, 0, 0, [], Nat.zero_le _, rfl, rfl, rfl, rfl, by simpa [val] using SubM.nil d, hub, Wr.refl _ _⟩
  case round =>
    clear hub
    obtain ⟨k, cr, b, zs, hk, hgk, rfl, rfl, rfl, hst, hub, hwr⟩ := hrel
    have HG := Lib.hid hgk
    clear hgk
    have hzl := hst.len
    have hxk : us.getD (j + k) 0 < 4294967296 := at_lt HUD.out _
    have hml := mid_len (us := us) (zs := zs) (j := j) hzl (by omega)
    have c3 : wr.cell? ⟨g, j + k, none⟩ = some (.int .u32 ((us.getD (j + k) 0 : Nat) : Int)) := by
      have := (hub.cell (j + k)).trans (u32s_at _ _ (by rw [hml]; omega))
      rwa [mid_at hzl (by omega)] at this
    have f3 := hub.frozen (j + k)
    have z3 := hub.lt
    have hcr := hst.car
    have hb1 := hst.bor
    have HTP := Lib.hid (val_take_succ (ds := partU us n j) (k := k) (by rw [HP.out]; omega))
    rw [partU_at hk] at HTP
    have hS : ∀ t, Blk (wr.setCell ⟨g, j + k, none⟩ (.int .u32 ((t : Nat) : Int))) g 70 (u32s (us.take j ++ ((zs ++ [t]) ++ us.drop (j + (k + 1))))).toArray := fun t => by
      rw [← mid_set hzl (by omega), ← u32s_set]
      exact hub.set_ (j + k) _
    have HS := Lib.hid hS
    have HW := Lib.hid (fun u => hwr.trans (Wr.set_ wr (j + k) u))
    clear hS
    by_cases hlt : k < n
    · obtain ⟨b2, o2, rfl, q2, c2⟩ := nat_at (ds := v) (by rw [HVL.out]; exact HV.out wr hwr) (k := k) (by rw [HVL.out]; exact hlt)
      have hy := at_lt HVD.out k
      have HTV := Lib.hid (val_take_succ (ds := v) (k := k) (by rw [HVL.out]; exact hlt))
      generalize v.getD k 0 = y at *
      generalize us.getD (j + k) 0 = x at *
      obtain ⟨hd1, hd2⟩ := sub_digits hy hd hcr
      have HMU := Lib.hid (fun W => mul32_any y d hy hd W)
      have hlo : y * d % 4294967296 < 4294967296 := Nat.mod_lt _ (by decide)
      have HAD := Lib.hid (fun W => add32_any (y * d % 4294967296) cr 0 hlo hcr (by omega) W)
      have hl2 : (y * d % 4294967296 + cr + 0) % 4294967296 < 4294967296 := Nat.mod_lt _ (by decide)
      have HSU := Lib.hid (fun W => sub32_any x ((y * d % 4294967296 + cr + 0) % 4294967296) b hxk hl2 hb1 W)
      have hss := subm_step hxk hl2 hb1
      have ht : (x + 4294967296 - (y * d % 4294967296 + cr + 0) % 4294967296 - b) % 4294967296 < 4294967296 := Nat.mod_lt _ (by decide)
      have hbb : (if x < (y * d % 4294967296 + cr + 0) % 4294967296 + b then 1 else 0) ≤ 1 := by split <;> omega
      have hN := hst.step hd1 hd2 ht hbb hss
      rw [← HTP.out, ← HTV.out] at hN
      generalize (if x < (y * d % 4294967296 + cr + 0) % 4294967296 + b then 1 else 0) = b' at *
      generalize (x + 4294967296 - (y * d % 4294967296 + cr + 0) % 4294967296 - b) % 4294967296 = t at *
      generalize (y * d % 4294967296 + cr + 0) % 4294967296 = l2 at *
      generalize (y * d % 4294967296 + cr + 0) / 4294967296 = k1 at *
      generalize y * d % 4294967296 = lo at *
      generalize y * d / 4294967296 = hi' at *
      have HN := Lib.hid hN
      clear hN hst hss hd2 hub
      have i2 : (k : Int) < (n : Int) := by omega
      have i3 : (k : Int) < (n : Int) + 1 := by omega
      have i0 : (0 : Int) ≤ (k : Int) := by omega
      go_wp2_with fail
      refine (HMU.out _).mono ?_
      rintro e w1 ⟨rfl, rfl⟩
      go_wp2_with fail
      refine (HAD.out _).mono ?_
      rintro e w1 ⟨rfl, rfl⟩
      go_wp2_with fail
      refine (HSU.out _).mono ?_
      rintro e w1 ⟨rfl, rfl⟩
      go_wp2_with fail
      go_roundg (n - (k + 1))
      case rel => exact ⟨k + 1, hi' + k1, b', zs ++ [t], by omega, rfl, by go_num, by go_num, rfl, HN.out, HS.out t, HW.out _⟩
      case measure => have := HG.out; omega
    · obtain rfl : k = n := by omega
      have hss := subm_step hxk hcr hb1
      have HSU := Lib.hid (fun W => sub32_any (us.getD (j + k) 0) cr b hxk hcr hb1 W)
      have ht : (us.getD (j + k) 0 + 4294967296 - cr - b) % 4294967296 < 4294967296 := Nat.mod_lt _ (by decide)
      have hbb : (if us.getD (j + k) 0 < cr + b then 1 else 0) ≤ 1 := by split <;> omega
      have hN := hst.last ht hss
      have hpl : (partU us k j).take (k + 1) = partU us k j := List.take_of_length_le (by rw [HP.out]; exact Nat.le_refl _)
      rw [hpl] at HTP
      rw [← HTP.out, show v.take k = v from List.take_of_length_le (by rw [HVL.out]; exact Nat.le_refl _)] at hN
      generalize (if us.getD (j + k) 0 < cr + b then 1 else 0) = b' at *
      generalize (us.getD (j + k) 0 + 4294967296 - cr - b) % 4294967296 = t at *
      generalize us.getD (j + k) 0 = x at *
      have HN := Lib.hid hN
      have HB := Lib.hid hbb
      clear hN hst hss hub hpl
      have i3 : (k : Int) < (k : Int) + 1 := by omega
      have i0 : (0 : Int) ≤ (k : Int) := by omega
      go_wp2_with fail
      refine (HSU.out _).mono ?_
      rintro e w1 ⟨rfl, rfl⟩
      rcases (by have := HB.out; omega : b' = 0 ∨ b' = 1) with rfl | rfl
      all_goals
        go_wp2_with fail
        go_ret
        exact ⟨zs ++ [t], _, HB.out, rfl, HN.out.1, HN.out.2.1, HN.out.2.2, HS.out t, HW.out _⟩
end Go.Proofs.Ytpbapoanjkekmaa
