/- PolytextRenamed: the walk. -/
import Derived.Test.YtnghlhcekghciaaDoorXD
import Derived.Test.YtnghlhcekghciaaDoorZT
import Derived.Test.YtnghlhcekghciaaDoorZR
namespace Go.Proofs.YtnghlhcekghciaaDoor
open Go.RowKit

theorem pin21 {w : World} {B t : Nat} {A : Option Addr} {ps : List PT} (h : PolyIn w B A ps) (hw : ∀ p ∈ ps, WfM p.m) (hf : Few21 t ps) (ht : t ≤ 4294967296) : PIn w B A ps t 1073741824 (pw 21) where
  pin := h
  dl p hp := Nat.le_trans (hf.2 p hp).1 (by omega)
  wf := hw
  mb p hp _ := ⟨(hf.2 p hp).2 0 (by omega), (hf.2 p hp).2 1 (by omega), (hf.2 p hp).2 2 (by omega), (hf.2 p hp).2 3 (by omega)⟩
  len := hf.1
  nm := by
    have key : ∀ qs : List PT, (∀ p ∈ qs, val p.ds < pw 20) → nrm (qs.map PT.tm) ≤ qs.length * pw 20 := by
      intro qs
      induction qs with
      | nil => intro _; simp [nrm]
      | cons q qs ih =>
        intro hh
        have h1 := ih fun p hp => hh p (List.mem_cons_of_mem _ hp)
        have h2 := hh q (by simp)
        simp only [List.map_cons, nrm, List.length_cons, Nat.add_mul]
        have : q.tm.1.natAbs = val q.ds := ival_abs _ _
        omega
    have h1 := key ps fun p hp => val_pw (h.nt p hp).dg (hf.2 p hp).1
    have h2 : ps.length * pw 20 ≤ pw 1 * pw 20 := Nat.mul_le_mul_right _ (Nat.le_trans hf.1 (by unfold pw; omega))
    rw [pw_mul] at h2
    exact Nat.le_trans h1 h2
theorem big21 : pw 21 < Big := pw_lt (by decide)

def xyzw : List Bs := [[120], [121], [122], [119]]
def baQ_ : List Bs := [[98], [97], [81], [95]]
theorem xyzw_ok : namesB xyzw = true := by decide
theorem baQ_ok : namesB baQ_ = true := by decide
theorem NIn.new4 {w : World} {b : Nat} {l0 l1 l2 l3 : Bs} (h0 : l0.length ≤ 1000000) (h1 : l1.length ≤ 1000000) (h2 : l2.length ≤ 1000000) (h3 : l3.length ≤ 1000000) (hb : Blk w b 9 #[strV l0, strV l1, strV l2, strV l3]) : NIn w w.heap.size (some ⟨b, 0, none⟩) 4 [l0, l1, l2, l3] where
  rd := ⟨rfl, fun _ => ⟨b, 0, rfl, hb.lt, fun j u hu => by rw [Nat.zero_add, hb.cell]; simpa using hu⟩⟩
  cap := Nat.le_refl _
  len := by simp
  el x hx := by
    simp only [List.mem_cons, List.not_mem_nil, or_false] at hx
    rcases hx with rfl | rfl | rfl | rfl <;> assumption
theorem fmtV4 {ls : List Bs} (h : ls.length = 4) (P : List Tm) : fmtV ls P = .tuple #[.string ⟨(fmtS ls P).toArray⟩, .int .i64 0] := by
  unfold fmtV
  have := lvL_bd P
  rw [if_neg (by rw [h]; omega)]
/-- Format with four valid names -/
theorem Format_four (A A' : Option Addr) (c c' B N : Nat) (E : Int) (M : Nat) (ps : List PT) (ls : List Bs) (w : World) (hB : B ≤ w.heap.size) (h : PIn w B A ps N E M) (hN : N ≤ 10000) (hM : M < Big) (hE : E ≤ 4294967296) (hn : NIn w B A' c' ls) (htab : TabT w) (h4 : ls.length = 4) (hok : namesB ls = true) :
    Calls Tryd.prog 12 #[.slice A ps.length c, .slice A' ls.length c'] w fun e w' => (∃ P, Canon P ∧ (∀ m, cf P m = cf (ps.map PT.tm) m) ∧ (fmtS ls P).length ≤ 100000000 ∧ e = .returned (.tuple #[.string ⟨(fmtS ls P).toArray⟩, .int .i64 0])) ∧ Below w.heap.size w w' := by
  refine (Format_any A A' c c' B N E M ps ls w hB h hN hM hE hn htab).mono ?_
  rintro e w' ⟨hr, hb⟩
  rcases hr with ⟨h1, _⟩ | ⟨_, P, hP, hc, hl, he⟩
  · rw [hok] at h1; cases h1
  · rw [fmtV4 h4] at he
    exact ⟨⟨P, hP, hc, hl (by have := lvL_bd P; rw [h4]; omega), he⟩, hb⟩

/-! ### the other letters -/
def rnm (c : UInt8) : UInt8 := if c = 120 then 98 else if c = 121 then 97 else if c = 122 then 81 else if c = 119 then 95 else c
theorem rnm_dig (c : UInt8) (h : isDig c) : rnm c = c := by
  have hn : ∀ k : UInt8, 57 < k.toNat → c ≠ k := fun k hk e => by unfold isDig at h; rw [e] at h; omega
  unfold rnm
  rw [if_neg (hn 120 (by decide)), if_neg (hn 121 (by decide)), if_neg (hn 122 (by decide)), if_neg (hn 119 (by decide))]
theorem rnm_nm (j : Nat) : nmAt baQ_ j = (nmAt xyzw j).map rnm := by
  rcases (by omega : j = 0 ∨ j = 1 ∨ j = 2 ∨ j = 3 ∨ 4 ≤ j) with rfl | rfl | rfl | rfl | h
  · decide
  · decide
  · decide
  · decide
  · unfold nmAt baQ_ xyzw
    rw [List.getD_eq_getElem?_getD, List.getD_eq_getElem?_getD, List.getElem?_eq_none (by simpa using h), List.getElem?_eq_none (by simpa using h)]
    rfl
theorem rnm_text (P : List Tm) : fmtS baQ_ P = (fmtS xyzw P).map rnm :=
  fmtS_map rnm_dig (by decide) (by decide) (by decide) (by decide) (by decide) rnm_nm P
theorem rnm_at {l : Bs} {k : Nat} (h : k < l.length) : (l.map rnm).getD k 0 = rnm (l.getD k 0) := by
  rw [List.getD_eq_getElem?_getD, List.getD_eq_getElem?_getD, List.getElem?_map, List.getElem?_eq_getElem h]
  rfl
theorem rnm_cases (x : UInt8) : (x.toNat = 120 ∧ (rnm x).toNat = 98) ∨ (x.toNat = 121 ∧ (rnm x).toNat = 97) ∨ (x.toNat = 122 ∧ (rnm x).toNat = 81) ∨ (x.toNat = 119 ∧ (rnm x).toNat = 95) ∨ (x.toNat ≠ 120 ∧ x.toNat ≠ 121 ∧ x.toNat ≠ 122 ∧ x.toNat ≠ 119 ∧ (rnm x).toNat = x.toNat) := by
  unfold rnm
  by_cases h0 : x = 120
  · subst h0; exact .inl ⟨rfl, rfl⟩
  by_cases h1 : x = 121
  · subst h1; exact .inr (.inl ⟨rfl, rfl⟩)
  by_cases h2 : x = 122
  · subst h2; exact .inr (.inr (.inl ⟨rfl, rfl⟩))
  by_cases h3 : x = 119
  · subst h3; exact .inr (.inr (.inr (.inl ⟨rfl, rfl⟩)))
  · rw [if_neg h0, if_neg h1, if_neg h2, if_neg h3]
    exact .inr (.inr (.inr (.inr ⟨fun e => h0 (UInt8.toNat_inj.1 e), fun e => h1 (UInt8.toNat_inj.1 e), fun e => h2 (UInt8.toNat_inj.1 e), fun e => h3 (UInt8.toNat_inj.1 e), rfl⟩)))

set_option maxHeartbeats 4000000 in
set_option maxRecDepth 100000 in
theorem Renamed_any (a0 : Option Addr) (cap0 : Nat) (ps0 : List PT) (W : World) (in0 : PolyIn W W.heap.size a0 ps0) (wf0 : ∀ p ∈ ps0, WfM p.m) (htab : TabT W) :
    Calls Tryd.prog 6 #[.slice a0 ps0.length cap0] W fun e w' => e = .returned (.bool true) ∧ Below W.heap.size W w' := by
  have H0 := Lib.hid in0; have W0 := Lib.hid wf0; have HT := Lib.hid htab
  clear in0 wf0 htab
  have HAW := Lib.hid (fun (w : World) (hW : Below W.heap.size W w) => awake_any w (HT.out.on hW))
  have HFW := Lib.hid (fun (w : World) (hW : Below W.heap.size W w) => Few21_any a0 cap0 W.heap.size 20 ps0 w (H0.out.below hW) (by omega))
  have HFM := Lib.hid (fun (w : World) (hW : Below W.heap.size W w) (hf : Few21 20 ps0) (a : Addr) (ls : List Bs) (hn : NIn w w.heap.size (some a) 4 ls) (h4 : ls.length = 4) (hok : namesB ls = true) =>
    Format_four a0 (some a) cap0 4 w.heap.size 20 1073741824 (pw 21) ps0 ls w (Nat.le_refl _) (((pin21 H0.out W0.out hf (by omega)).below hW).more hW.size) (by omega) big21 (by omega) hn (HT.out.on hW) h4 hok)
  go_enter Tryd.func6, Tryd.ntmps6
  go_wp2_with fail
  refine (HAW.out _ (Below.refl _ _)).mono ?_
  rintro e w1 ⟨rfl, hb1⟩
  go_wp2_with fail
  refine (HFW.out _ hb1).mono ?_
  rintro e w1' ⟨b, rfl, hf, rfl⟩
  have HF := Lib.hid hf
  clear hf
  cases b with
  | false =>
    go_wp2_with fail
    refine (HAW.out _ hb1).mono ?_
    rintro e w2 ⟨rfl, hb2⟩
    go_wp2_with fail
    go_ret
    exact ⟨rfl, hb1.trans (hb2.mono hb1.size)⟩
  | true =>
    have hx := Blk.new w1 9 #[strV [120], strV [121], strV [122], strV [119]]
    have hb1' := hb1.alloc hb1.size (.cells #[strV [120], strV [121], strV [122], strV [119]] 9)
    have HN1 := Lib.hid (show NIn (w1.alloc (.cells #[strV [120], strV [121], strV [122], strV [119]] 9)) (w1.alloc (.cells #[strV [120], strV [121], strV [122], strV [119]] 9)).heap.size (some ⟨w1.heap.size, 0, none⟩) 4 xyzw from NIn.new4 (by decide) (by decide) (by decide) (by decide) hx)
    have HFX := Lib.hid (HFM.out _ hb1' (HF.out (by trivial)) ⟨w1.heap.size, 0, none⟩ xyzw HN1.out rfl xyzw_ok)
    have HB1 := Lib.hid hb1'
    clear hx hb1'
    go_wp2_with fail
    refine HFX.out.mono ?_
    rintro e w2 ⟨⟨P, hP, hc, hl, rfl⟩, hb2⟩
    have HP := Lib.hid hP; have HC := Lib.hid hc
    clear hP hc HFX HN1
    have hb2' := HB1.out.trans (hb2.mono HB1.out.size)
    clear hb2 HB1
    have hy := Blk.new w2 9 #[strV [98], strV [97], strV [81], strV [95]]
    have hb3 := hb2'.alloc hb2'.size (.cells #[strV [98], strV [97], strV [81], strV [95]] 9)
    have HN2 := Lib.hid (show NIn (w2.alloc (.cells #[strV [98], strV [97], strV [81], strV [95]] 9)) (w2.alloc (.cells #[strV [98], strV [97], strV [81], strV [95]] 9)).heap.size (some ⟨w2.heap.size, 0, none⟩) 4 baQ_ from NIn.new4 (by decide) (by decide) (by decide) (by decide) hy)
    have HFY := Lib.hid (HFM.out _ hb3 (HF.out (by trivial)) ⟨w2.heap.size, 0, none⟩ baQ_ HN2.out rfl baQ_ok)
    have HB3 := Lib.hid hb3
    clear hy hb3 hb2'
    have HRT := Lib.hid (rnm_text P)
    generalize hL : fmtS xyzw P = L at *
    have HL := Lib.hid hL
    clear hL
    go_wp2_with fail
    refine HFY.out.mono ?_
    rintro e w3 ⟨⟨Q, hQ, hc, hl2, rfl⟩, hb4⟩
    have hb5 := HB3.out.trans (hb4.mono HB3.out.size)
    obtain rfl : Q = P := hQ.unique HP.out (fun m => (hc m).trans (HC.out m).symm)
    rw [HRT.out] at *
    have HLL := Lib.hid (show (L.map rnm).length = L.length from List.length_map _)
    have HAT := Lib.hid (fun k h => @rnm_at L k h)
    generalize hL2 : L.map rnm = L2 at *
    have heqb : ((L.length : Int) != (L2.length : Int)) = false := by rw [HLL.out]; simp
    have HB5 := Lib.hid hb5
    clear hQ hc hb4 HB3 HFY HN2 hb5 hL2 HP HC HFM HAW HFW HF HRT HL hl2
    go_wp2_with fail
    go_loopg [7, 8, 52, 54, 56, 58] L.length (fun gn i _ _ _ _ _ wr => ∃ k : Nat, k ≤ L.length ∧ gn = L.length - k ∧ i = .int .i64 k ∧ w3 = wr)
    case atStart => exact ⟨0, by omega, rfl, rfl, rfl⟩
    case round =>
      obtain ⟨k, hk, hgk, rfl, rfl⟩ := hrel
      have HG := Lib.hid hgk
      clear hgk
      by_cases hlt : k < L.length
      · have hix := fun (W : World) => Tryd.str_at L k hlt W
        have hiy := fun (W : World) => Tryd.str_at L2 k (by rw [HLL.out]; exact hlt) W
        rw [HAT.out k hlt] at hiy
        have hcs := rnm_cases (L.getD k 0)
        have j1 : (k : Int) < (L.length : Int) := by omega
        generalize (rnm (L.getD k 0)).toNat = y at *
        generalize (L.getD k 0).toNat = x at *
        clear heqb
        rcases hcs with ⟨rfl, rfl⟩ | ⟨rfl, rfl⟩ | ⟨rfl, rfl⟩ | ⟨rfl, rfl⟩ | ⟨h0, h1, h2, h3, hyx⟩
        · go_wp2_with fail
          go_roundg (L.length - (k + 1))
          case rel => exact ⟨k + 1, by omega, rfl, by go_num, rfl⟩
          case measure => have := HG.out; omega
        · go_wp2_with fail
          go_roundg (L.length - (k + 1))
          case rel => exact ⟨k + 1, by omega, rfl, by go_num, rfl⟩
          case measure => have := HG.out; omega
        · go_wp2_with fail
          go_roundg (L.length - (k + 1))
          case rel => exact ⟨k + 1, by omega, rfl, by go_num, rfl⟩
          case measure => have := HG.out; omega
        · go_wp2_with fail
          go_roundg (L.length - (k + 1))
          case rel => exact ⟨k + 1, by omega, rfl, by go_num, rfl⟩
          case measure => have := HG.out; omega
        · have f0 : ((x : Int) == 120) = false := by simp; omega
          have f1 : ((x : Int) == 121) = false := by simp; omega
          have f2 : ((x : Int) == 122) = false := by simp; omega
          have f3 : ((x : Int) == 119) = false := by simp; omega
          rw [hyx] at hiy
          clear h0 h1 h2 h3 hyx
          go_wp2_with fail
          go_roundg (L.length - (k + 1))
          case rel => exact ⟨k + 1, by omega, rfl, by go_num, rfl⟩
          case measure => have := HG.out; omega
      · obtain rfl : k = L.length := by omega
        go_wp2_with fail
        go_ret
        exact ⟨rfl, HB5.out⟩
end Go.Proofs.YtnghlhcekghciaaDoor
