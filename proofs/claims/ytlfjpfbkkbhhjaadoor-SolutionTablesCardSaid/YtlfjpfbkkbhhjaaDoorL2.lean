/- The walks of the laws SolutionCovers and SolutionPrime: they return true at every n and every list of rows. -/
import Derived.Test.YtlfjpfbkkbhhjaaDoorL1
namespace Go.Proofs.YtlfjpfbkkbhhjaaDoor
open Go.RowKit

theorem errOf_cases (x : Int) (rows : List (List Int × Bool)) : errOf x rows = 0 ∨ errOf x rows = 1 ∨ errOf x rows = 5 := by
  unfold errOf
  split
  · exact .inr (.inl rfl)
  · split
    · exact .inr (.inl rfl)
    · split
      · exact .inr (.inr rfl)
      · exact .inl rfl

set_option maxHeartbeats 1000000 in
set_option maxRecDepth 100000 in
theorem lawCovers (x : Int) (A : Option Addr) (c : Nat) (rows : List (List Int × Bool)) (w : World) (hr : RowsArg w A rows) (htab : TabOk w) :
    Calls Tryd.prog 3 #[.int .i64 x, .slice A rows.length c] w fun e w' => e = .returned (.bool true) ∧ Below w.heap.size w w' := by
  have HT := Lib.hid htab; clear htab
  cases hf : fewB rows
  · have HF := Lib.hid hf; clear hf
    go_enter Tryd.func3, Tryd.ntmps3
    go_wp2_with fail
    refine (awake_any w HT.out).mono ?_
    rintro e w1 ⟨rfl, hb1⟩
    have hz1 := hb1.size
    go_wp2_with fail
    have hfw := Few_any A rows.length c w.heap.size rows w1 (hr.at_.below hb1) rfl hr.len
    rw [HF.out] at hfw
    refine hfw.mono ?_
    rintro e w2 ⟨rfl, rfl⟩
    clear hfw
    go_wp2_with fail
    refine (awake_any w1 (HT.out.on hb1)).mono ?_
    rintro e w2 ⟨rfl, hb2⟩
    go_wp2_with fail
    go_ret
    exact ⟨rfl, hb1.trans (hb2.mono hz1)⟩
  have HF := Lib.hid hf; clear hf
  by_cases hx : x ≤ 6
  · go_enter Tryd.func3, Tryd.ntmps3
    go_wp2_with fail
    refine (awake_any w HT.out).mono ?_
    rintro e w1 ⟨rfl, hb1⟩
    have hz1 := hb1.size
    have hri := hr.few HF.out hb1
    go_wp2_with fail
    have hfw := Few_any A rows.length c w.heap.size rows w1 hri.at_ rfl hr.len
    rw [HF.out] at hfw
    refine hfw.mono ?_
    rintro e w2 ⟨rfl, rfl⟩
    clear hfw
    go_wp2_with fail
    refine (Cover_good x hx A c w.heap.size rows w1 hz1 hri (HT.out.on hb1)).mono ?_
    rintro e w2 ⟨A1, c1, ts, rfl, hl, hne, hok, hb2⟩
    have HNE := Lib.hid hne; clear hne
    have HOK := Lib.hid hok; clear hok
    have hd2 := hb1.trans (hb2.mono hz1)
    have hri2 := hr.few HF.out hd2
    have hz2 := hd2.size
    clear hri hb2 hb1
    go_wp2_with fail
    refine (Error_any x A rows.length c w.heap.size rows w2 hri2.at_ rfl hri2.few hri2.six).mono ?_
    rintro e w3 ⟨rfl, hd3⟩
    have hd3' := hd2.trans (hd3.below _)
    have hz3 := hd3'.size
    have hl3 : ListsAt w3 w3.heap.size A1 ts := by rw [hd3.heap]; exact hl.drawn hd3
    have hri3 := hr.few HF.out hd3'
    clear hri2 hd2 hd3 hl
    have hec := errOf_cases x rows
    generalize errOf x rows = er at *
    by_cases he : er = 0
    · subst he
      obtain ⟨N, rfl, hv, hc⟩ := HOK.out rfl
      have h90 := hri3.few
      have hcnt := hc.count
      have hN6 : N ≤ 6 := by omega
      have hsets := Sets_any (N : Int) A1 ts.length c1 w3.heap.size ts w3 hl3 rfl (by omega) (fun k hk => by rw [(hc.term _ (mem_getD hk)).1]; omega)
      rw [sets_of hc] at hsets
      have hcov := Covers_any A1 A ts.length rows.length c1 c w3.heap.size ts rows w3 (Nat.le_refl _) hl3 (hri3.at_.more hz3) rfl rfl (by omega) (by omega) (fun k hk => by rw [(hc.term _ (mem_getD hk)).1]; omega) hri3.six (fun k hk => (hv k hk).2)
      rw [covers_of hv hc] at hcov
      have HS := Lib.hid hsets; have HC := Lib.hid hcov
      clear hsets hcov hc hv hl3 hri3 hec
      go_wp2_with fail
      refine (HS.out).mono ?_
      rintro e w4 ⟨rfl, rfl⟩
      go_wp2_with fail
      refine (HC.out).mono ?_
      rintro e w4 ⟨rfl, hb4⟩
      go_wp2_with fail
      go_ret
      exact ⟨rfl, hd3'.trans (hb4.mono hz3)⟩
    · obtain rfl := HNE.out he
      have hb0 : (er != 0) = true := by simpa using he
      clear hri3 hl3 hec he
      have HB := Lib.hid hb0
      go_wp2_with fail
      go_ret
      exact ⟨by simp, hd3'⟩
  · go_enter Tryd.func3, Tryd.ntmps3
    go_wp2_with fail
    refine (awake_any w HT.out).mono ?_
    rintro e w1 ⟨rfl, hb1⟩
    have hz1 := hb1.size
    go_wp2_with fail
    have hfw := Few_any A rows.length c w.heap.size rows w1 (hr.at_.below hb1) rfl hr.len
    rw [HF.out] at hfw
    refine hfw.mono ?_
    rintro e w2 ⟨rfl, rfl⟩
    clear hfw
    go_wp2_with fail
    refine (awake_any w1 (HT.out.on hb1)).mono ?_
    rintro e w2 ⟨rfl, hb2⟩
    go_wp2_with fail
    go_ret
    exact ⟨rfl, hb1.trans (hb2.mono hz1)⟩

set_option maxHeartbeats 1000000 in
set_option maxRecDepth 100000 in
theorem lawPrime (x : Int) (A : Option Addr) (c : Nat) (rows : List (List Int × Bool)) (w : World) (hr : RowsArg w A rows) (htab : TabOk w) :
    Calls Tryd.prog 4 #[.int .i64 x, .slice A rows.length c] w fun e w' => e = .returned (.bool true) ∧ Below w.heap.size w w' := by
  have HT := Lib.hid htab; clear htab
  cases hf : fewB rows
  · have HF := Lib.hid hf; clear hf
    go_enter Tryd.func4, Tryd.ntmps4
    go_wp2_with fail
    refine (awake_any w HT.out).mono ?_
    rintro e w1 ⟨rfl, hb1⟩
    have hz1 := hb1.size
    go_wp2_with fail
    have hfw := Few_any A rows.length c w.heap.size rows w1 (hr.at_.below hb1) rfl hr.len
    rw [HF.out] at hfw
    refine hfw.mono ?_
    rintro e w2 ⟨rfl, rfl⟩
    clear hfw
    go_wp2_with fail
    refine (awake_any w1 (HT.out.on hb1)).mono ?_
    rintro e w2 ⟨rfl, hb2⟩
    go_wp2_with fail
    go_ret
    exact ⟨rfl, hb1.trans (hb2.mono hz1)⟩
  have HF := Lib.hid hf; clear hf
  by_cases hx : x ≤ 6
  · go_enter Tryd.func4, Tryd.ntmps4
    go_wp2_with fail
    refine (awake_any w HT.out).mono ?_
    rintro e w1 ⟨rfl, hb1⟩
    have hz1 := hb1.size
    have hri := hr.few HF.out hb1
    go_wp2_with fail
    have hfw := Few_any A rows.length c w.heap.size rows w1 hri.at_ rfl hr.len
    rw [HF.out] at hfw
    refine hfw.mono ?_
    rintro e w2 ⟨rfl, rfl⟩
    clear hfw
    go_wp2_with fail
    refine (Cover_good x hx A c w.heap.size rows w1 hz1 hri (HT.out.on hb1)).mono ?_
    rintro e w2 ⟨A1, c1, ts, rfl, hl, hne, hok, hb2⟩
    have HOK := Lib.hid hok; clear hok hne
    have hd2 := hb1.trans (hb2.mono hz1)
    have hri3 := hr.few HF.out hd2
    have hz3 := hd2.size
    clear hri hb2 hb1
    generalize errOf x rows = er at *
    by_cases he : er = 0
    · subst he
      obtain ⟨N, rfl, hv, hc⟩ := HOK.out rfl
      have h90 := hri3.few
      have hcnt := hc.count
      have hN6 : N ≤ 6 := by omega
      have hq : ∀ k, k < ts.length → (ts.getD k []).length ≤ 1000 := fun k hk => by rw [(hc.term _ (mem_getD hk)).1]; omega
      have hsets := Sets_any (N : Int) A1 ts.length c1 w2.heap.size ts w2 hl rfl (by omega) hq
      rw [sets_of hc] at hsets
      have hpri := Prime_any A1 A ts.length rows.length c1 c w2.heap.size ts rows w2 (Nat.le_refl _) hl (hri3.at_.more hz3) rfl rfl (by omega) (by omega) hq hri3.six (fun k hk => (hv k hk).2)
      rw [prime_of hv hc] at hpri
      have HND := Lib.hid (fun (w4 : World) (hb4 : Below w2.heap.size w2 w4) => (need_of hv hc) ▸ Needed_any A1 A ts.length rows.length c1 c w2.heap.size ts rows w4 hb4.size (hl.below hb4) ((hri3.at_.more hz3).below hb4) rfl rfl (by omega) (by omega) hq hri3.six (fun k hk => (hv k hk).2))
      have HS := Lib.hid hsets; have HP := Lib.hid hpri
      clear hsets hpri hc hv hl hri3 hq
      go_wp2_with fail
      refine (HS.out).mono ?_
      rintro e w4 ⟨rfl, rfl⟩
      go_wp2_with fail
      refine (HP.out).mono ?_
      rintro e w4 ⟨rfl, hb4⟩
      have hz4 := hb4.size
      go_wp2_with fail
      refine (HND.out w4 hb4).mono ?_
      rintro e w5 ⟨rfl, hb5⟩
      go_wp2_with fail
      go_ret
      exact ⟨rfl, hd2.trans ((hb4.trans (hb5.mono hz4)).mono hz3)⟩
    · have hb0 : (er != 0) = true := by simpa using he
      clear hri3 hl he HOK
      go_wp2_with fail
      go_ret
      exact ⟨by simp, hd2⟩
  · go_enter Tryd.func4, Tryd.ntmps4
    go_wp2_with fail
    refine (awake_any w HT.out).mono ?_
    rintro e w1 ⟨rfl, hb1⟩
    have hz1 := hb1.size
    go_wp2_with fail
    have hfw := Few_any A rows.length c w.heap.size rows w1 (hr.at_.below hb1) rfl hr.len
    rw [HF.out] at hfw
    refine hfw.mono ?_
    rintro e w2 ⟨rfl, rfl⟩
    clear hfw
    go_wp2_with fail
    refine (awake_any w1 (HT.out.on hb1)).mono ?_
    rintro e w2 ⟨rfl, hb2⟩
    go_wp2_with fail
    go_ret
    exact ⟨rfl, hb1.trans (hb2.mono hz1)⟩
end Go.Proofs.YtlfjpfbkkbhhjaaDoor
