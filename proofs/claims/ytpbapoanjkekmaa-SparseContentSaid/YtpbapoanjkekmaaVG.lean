/- Contract of division.addBack. -/
import Derived.Test.YtpbapoanjkekmaaVF
namespace Go.Proofs.Ytpbapoanjkekmaa
open Go.RowKit

def AddBRes (us v : List Nat) (j n g : Nat) (w : World) (e : Ending) (w' : World) : Prop :=
  ∃ (zs : List Nat) (b : Nat), b ≤ 1 ∧ (∃ u, e = .returned u) ∧ zs.length = n + 1 ∧ Dig zs ∧ val zs + 4294967296 ^ (n + 1) * b = val (partU us n j) + val v ∧ Blk w' g 70 (u32s (us.take j ++ (zs ++ us.drop (j + (n + 1))))).toArray ∧ Wr g w w'
set_option maxHeartbeats 4000000 in
set_option maxRecDepth 100000 in
theorem addBack_any (A : Option Addr) (c cp B g j n : Nat) (us v : List Nat) (w : World) (hB : B ≤ g) (hu : Blk w g 70 (u32s us).toArray) (hul : us.length ≤ 900000) (hj : j + n + 1 ≤ us.length) (hud : Dig us) (hv : Reads w B 1 A n (u32s v)) (hvl : v.length = n) (hvd : Dig v) :
    Calls Try.prog 86 #[.slice (some ⟨g, j, none⟩) (n + 1) cp, .slice A n c] w (AddBRes us v j n g w) := by
  have HV := Lib.hid (fun (W : World) (hW : Wr g w W) => hv.below ((hW.below hu.lt).mono hB))
  have HVD := Lib.hid hvd; have HUD := Lib.hid hud; have HVL := Lib.hid hvl
  have HP := Lib.hid (show (partU us n j).length = n + 1 by unfold partU; rw [List.length_take, List.length_drop]; omega)
  have hub : Blk w g 70 (u32s (us.take j ++ ([] ++ us.drop (j + 0)))).toArray := by rw [Nat.add_zero, List.nil_append, List.take_append_drop]; exact hu
  clear hv hvd hud hu hvl
  go_enter Try.func86, Try.ntmps86
  go_wp2_with fail
  go_loopg [4, 5, 6, 9] n (fun gn cv _ _ kv wr => ∃ (k cr : Nat) (zs : List Nat), k ≤ n ∧ gn = n - k ∧ kv = .int .i64 k ∧ cv = .int .u32 (cr : Int) ∧ AddM zs cr k (val ((partU us n j).take k)) (val (v.take k)) ∧ Blk wr g 70 (u32s (us.take j ++ (zs ++ us.drop (j + k)))).toArray ∧ Wr g w wr)
  case atStart => exact ⟨0, 0, [], Nat.zero_le _, rfl, rfl, rfl, by simpa [val] using AddM.nil, hub, Wr.refl _ _⟩
  case round =>
    clear hub
    obtain ⟨k, cr, zs, hk, hgk, rfl, rfl, hst, hub, hwr⟩ := hrel
    have HG := Lib.hid hgk
    clear hgk
    have hzl := hst.len
    have hxk : us.getD (j + k) 0 < 4294967296 := at_lt HUD.out _
    have hml := mid_len (us := us) (zs := zs) (j := j) hzl (by omega)
    have c3 : wr.cell? ⟨g, j + k, none⟩ = some (.int .u32 ((us.getD (j + k) 0 : Nat) : Int)) := by
      have := (hub.cell (j + k)).trans (u32s_at _ _ (by rw [hml]; omega))
      rwa [mid_at hzl (by omega)] at this
    have f3 := hub.frozen (j + k)
    have z3 := hub.lt
    have hcr := hst.car
    have HTP := Lib.hid (val_take_succ (ds := partU us n j) (k := k) (by rw [HP.out]; omega))
    rw [partU_at hk] at HTP
    have HS : Hid (∀ (t : Nat) (u : Int), u = (t : Int) → Blk (wr.setCell ⟨g, j + k, none⟩ (.int .u32 u)) g 70 (u32s (us.take j ++ ((zs ++ [t]) ++ us.drop (j + (k + 1))))).toArray) := Lib.hid (fun t u hu => by
      rw [hu, ← mid_set hzl (by omega), ← u32s_set]
      exact hub.set_ (j + k) _)
    have HW := Lib.hid (fun u => hwr.trans (Wr.set_ wr (j + k) u))
    by_cases hlt : k < n
    · obtain ⟨b2, o2, rfl, q2, c2⟩ := nat_at (ds := v) (by rw [HVL.out]; exact HV.out wr hwr) (k := k) (by rw [HVL.out]; exact hlt)
      have hy := at_lt HVD.out k
      have HTV := Lib.hid (val_take_succ (ds := v) (k := k) (by rw [HVL.out]; exact hlt))
      generalize v.getD k 0 = y at *
      generalize us.getD (j + k) 0 = x at *
      have HAD := Lib.hid (fun W => add32_any x y cr hxk hy hcr W)
      have hs1 : (x + y + cr) % 4294967296 < 4294967296 := Nat.mod_lt _ (by decide)
      have hs2 : (x + y + cr) / 4294967296 ≤ 1 := by omega
      have hN := hst.step (x := x) (y := y) hs1 hs2 (Nat.mod_add_div _ _)
      rw [← HTP.out, ← HTV.out] at hN
      generalize (x + y + cr) % 4294967296 = t at *
      generalize (x + y + cr) / 4294967296 = c' at *
      have HN := Lib.hid hN
      clear hN hst hub
      have i2 : (k : Int) < (n : Int) := by omega
      have i3 : (k : Int) < (n : Int) + 1 := by omega
      have i0 : (0 : Int) ≤ (k : Int) := by omega
      go_wp2_with fail
      refine (HAD.out _).mono ?_
      rintro e w1 ⟨rfl, rfl⟩
      go_wp2_with fail
      go_roundg (n - (k + 1))
      case rel => exact ⟨k + 1, c', zs ++ [t], by omega, rfl, by go_num, rfl, HN.out, HS.out t _ rfl, HW.out _⟩
      case measure => have := HG.out; omega
    · obtain rfl : k = n := by omega
      have hpl : (partU us k j).take (k + 1) = partU us k j := List.take_of_length_le (by rw [HP.out]; exact Nat.le_refl _)
      rw [hpl] at HTP
      have hN := hst.last (x := us.getD (j + k) 0) rfl hxk
      rw [← HTP.out, show v.take k = v from List.take_of_length_le (by rw [HVL.out]; exact Nat.le_refl _)] at hN
      obtain ⟨n1, n2, b', n3, n4⟩ := hN
      have HN := Lib.hid (And.intro n1 (And.intro n2 (And.intro n3 n4)))
      clear n1 n2 n3 n4 hst hub hpl
      generalize us.getD (j + k) 0 = x at *
      have i3 : (k : Int) < (k : Int) + 1 := by omega
      have i0 : (0 : Int) ≤ (k : Int) := by omega
      go_wp2_with fail
      first | (refine bodyPost_end (v := .tuple #[]) (results_none rfl _ _ _) rfl ?_) | (refine bodyPost_ret (v := .tuple #[]) (results_none rfl _ _ _) rfl ?_)
      exact ⟨zs ++ [(x + cr) % 4294967296], b', HN.out.2.2.1, ⟨_, rfl⟩, HN.out.1, HN.out.2.1, HN.out.2.2.2, HS.out _ _ (by omega), HW.out _⟩
end Go.Proofs.Ytpbapoanjkekmaa
