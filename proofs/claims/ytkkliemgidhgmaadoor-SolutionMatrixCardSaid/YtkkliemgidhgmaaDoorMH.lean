/- Contract of the reference's FewPolys. -/
import Derived.IntWalk
import Derived.Test.YtkkliemgidhgmaaDoorRD
import Derived.Test.YtkkliemgidhgmaaDoorMD
namespace Go.Proofs.YtkkliemgidhgmaaDoor
open Go.RowKit

def fewP (p : RP) : Bool := decide (0 ≤ roomT 2 p 24 6)
def fewMB (ps : List RP) : Bool := decide (ps.length ≤ 6) && ps.all fewP
theorem fewMB_big {ps : List RP} {k : Nat} (h : k < ps.length) (hk : 6 ≤ k) : fewMB ps = false := by
  unfold fewMB; rw [decide_eq_false (by omega)]; rfl
theorem fewMB_bad {ps : List RP} {k : Nat} {p : RP} (h : ps[k]? = some p) (hp : fewP p = false) : fewMB ps = false := by
  unfold fewMB; rw [all_bad (List.mem_of_getElem? h) hp, Bool.and_false]
theorem fewMB_ok {ps : List RP} (hl : ps.length ≤ 6) (hp : (ps.take ps.length).all fewP = true) : fewMB ps = true := by
  rw [List.take_length] at hp
  unfold fewMB; rw [decide_eq_true hl, hp]; rfl
theorem fewMB_caps {ps : List RP} (h : fewMB ps = true) : ps.length ≤ 6 ∧ ∀ p ∈ ps, depT p ≤ 6 ∧ FewT 2 p ∧ cntT p ≤ 24 := by
  unfold fewMB at h
  rw [Bool.and_eq_true] at h
  refine ⟨of_decide_eq_true h.1, fun p hp => ?_⟩
  have h1 := List.all_eq_true.1 h.2 p hp
  have h2 := roomT_few 2 p 24 6 (of_decide_eq_true h1)
  have h3 : 0 ≤ roomT 2 p 24 6 := of_decide_eq_true h1
  exact ⟨h2.2.1, h2.2.2, by omega⟩
set_option maxHeartbeats 2000000 in
set_option maxRecDepth 100000 in
theorem FewPs_any (ps : List RP) (K : Option Addr) (kc B : Nat) (w : World) (hB : B ≤ w.heap.size) (h : RV w (· < B) (.mk 0 false [] ps) (rcell (.mk 0 false [] ps) none 0 K kc)) :
    Calls Tryd.prog 5 #[.slice K ps.length kc, .int .i64 6] w fun e w' => e = .returned (.bool (fewMB ps)) ∧ Below w.heap.size w w' := by
  have HR := Lib.hid (fun (W : World) (hW : Below w.heap.size w W) => h.below (hW.mono hB))
  have HB := Lib.hid hB
  have HBIG := Lib.hid (fun (k : Nat) (h : k < ps.length) (hk : 6 ≤ k) => fewMB_big h hk)
  have HBAD := Lib.hid (fun (k : Nat) (p : RP) (h : ps[k]? = some p) (hp : fewP p = false) => fewMB_bad h hp)
  have HOK := Lib.hid (fewMB_ok (ps := ps))
  have HAT := Lib.hid (fun (k : Nat) (h : k < ps.length) => (⟨_, List.getElem?_eq_getElem h⟩ : ∃ u, ps[k]? = some u))
  have HTK := Lib.hid (fun (k : Nat) (u : RP) (h : ps[k]? = some u) (hok : (ps.take k).all fewP = true) (hp : fewP u = true) => all_take_succ h hok hp)
  have h00 := Below.refl w.heap.size w
  have HB00 := Lib.hid h00
  have HKC := Lib.hid (show ps.length ≤ kc from h.node.2.2.2)
  have HKID := Lib.hid (fun (W : World) (hW : Below w.heap.size w W) (k : Nat) (u : RP) (h0 : ps[k]? = some u) => (h.below (hW.mono hB)).kid (t := .mk 0 false [] ps) (i := k) (u := u) h0)
  have HS0 := Lib.hid (show (ps.take 0).all fewP = true by simp)
  clear h hB h00 HR
  generalize fewMB ps = fb at *
  generalize hn : ps.length = n at *
  clear hn
  go_enter Tryd.func5, Tryd.ntmps5
  go_wp2_with fail
  go_loopg [5, 8] n (fun gn _ ix wr => ∃ k : Nat, k ≤ n ∧ k ≤ 6 ∧ gn = n - k ∧ ix = .int .i64 k ∧ (ps.take k).all fewP = true ∧ Below w.heap.size w wr)
  case atStart => exact ⟨0, Nat.zero_le _, by omega, rfl, rfl, HS0.out, HB00.out⟩
  case round =>
    obtain ⟨k, hk, hk6, hgk, rfl, hok, hbw⟩ := hrel
    have HG := Lib.hid hgk
    have HK := Lib.hid hok
    have HBW := Lib.hid hbw
    clear hgk hok
    by_cases hlt : k < n
    · by_cases h6 : 6 ≤ k
      · have HF := Lib.hid (HBIG.out k hlt h6)
        go_wp2_with fail
        go_ret
        exact ⟨by rw [HF.out]; rfl, HBW.out⟩
      · obtain ⟨u, hu⟩ := HAT.out k hlt
        obtain ⟨b, o, A', c', K', kc', rfl, hbB, e0, e1, e2, e3, hku⟩ := HKID.out wr hbw k u hu
        have HC := Lib.hid (FewP_any u A' c' K' kc' wr.heap.size 24 2 wr (Nat.le_refl _) (hku.more (Nat.le_trans HB.out hbw.size)) (by omega) (by omega))
        have HBD := Lib.hid (HBAD.out k u hu)
        have HNX := Lib.hid (HTK.out k u hu HK.out)
        have i3 : (0 : Int) ≤ (k : Int) := by omega
        have i4 : (k : Int) < (n : Int) := by omega
        have i5 : (n : Int) ≤ (kc : Int) := by have := HKC.out; omega
        have i6 : (k : Int) < 6 := by omega
        clear hu hku hbw h6
        go_wp2_with fail
        refine HC.out.mono ?_
        rintro e w2 ⟨rfl, hb2⟩
        have HB2 := Lib.hid (HBW.out.trans (hb2.mono HBW.out.size))
        clear hb2
        by_cases hf : fewP u = true
        · have hf' : decide (0 ≤ roomT 2 u 24 6) = true := hf
          have hok2 := HNX.out hf
          have HK2 := Lib.hid hok2
          generalize decide (0 ≤ roomT 2 u 24 6) = z at *
          subst hf'
          clear hf hok2
          go_wp2_with fail
          go_roundg (n - (k + 1))
          case rel => exact ⟨k + 1, by omega, by omega, rfl, by go_num, HK2.out, HB2.out⟩
          case measure => have := HG.out; omega
        · have hf1 : fewP u = false := by simpa using hf
          have hf' : decide (0 ≤ roomT 2 u 24 6) = false := hf1
          have HF := Lib.hid (HBD.out hf1)
          generalize decide (0 ≤ roomT 2 u 24 6) = z at *
          subst hf'
          clear hf hf1
          go_wp2_with fail
          go_ret
          exact ⟨by rw [HF.out]; rfl, HB2.out⟩
    · obtain rfl : k = n := by omega
      have HF := Lib.hid (HOK.out)
      go_wp2_with fail
      go_ret
      exact ⟨by rw [HF.out hk6 HK.out]; rfl, HBW.out⟩
end Go.Proofs.YtkkliemgidhgmaaDoor
